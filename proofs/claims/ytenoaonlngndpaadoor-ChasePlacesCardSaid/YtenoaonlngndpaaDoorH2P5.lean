/- Parts of the proof, joined: Chains, Chains2, Chain1, Learn. -/
import Derived.Deep.RegionHeld
import Derived.RegionTactic
import Derived.Laws.Tables
import Derived.Deep.AppendLies
import Derived.Test.YtenoaonlngndpaaDoorH2P2
import Derived.Great.BuildSlice
import Derived.Test.YtenoaonlngndpaaDoorH2P4
import Derived.OwnWalk
import Derived.Lib.BufferMore
/- A region that draws its order and holds two chains of load, slice literal, append, store: whichever order is drawn. Over whatever program. -/
namespace Go.Proofs.YtenoaonlngndpaaDoor
set_option linter.unusedVariables false
open Go.RowKit

/-! Which have come up. -/
def lst (n : Nat) (xs : List Nat) : Array Bool := ((List.range n).map fun k => xs.contains k).toArray
def chL (sz : Nat) (pre A B : List Nat) (i j : Nat) : Array Bool := lst sz (pre ++ A.take i ++ B.take j)
def chAt (md : Region.Mode) (ops : Array Oper) (pre A B : List Nat) (i j : Nat) : Bool :=
  (!decide (i < A.length) || (chL ops.size pre A B i j).setIfInBounds (A.getD i 0) true == chL ops.size pre A B (i + 1) j) &&
  (!decide (j < B.length) || (chL ops.size pre A B i j).setIfInBounds (B.getD j 0) true == chL ops.size pre A B i (j + 1)) &&
  ((Region.ready md ops (chL ops.size pre A B i j)).all fun x => (decide (i < A.length) && x == A.getD i 0) || (decide (j < B.length) && x == B.getD j 0)) &&
  (!(Region.ready md ops (chL ops.size pre A B i j)).isEmpty || (i == A.length && j == B.length))
def chOk (md : Region.Mode) (ops : Array Oper) (pre A B : List Nat) : Bool := (List.range (A.length + 1)).all fun i => (List.range (B.length + 1)).all fun j => chAt md ops pre A B i j

section
variable {P : Program} {ops : Array Oper} {Q : Exit → Act → World → Prop} {md : Region.Mode} {S : World → Prop}

theorem chain_end {pre A B : List Nat} {l : List Nat} {x : Nat} (h : x ∈ l) (hn : l = []) : False := by rw [hn] at h; cases h
theorem two_chains {pre A B : List Nat} (hok : chOk md ops pre A B = true) (I : Nat → Nat → Act → World → Prop)
    (hA : ∀ i j a w, i < A.length → I i j a w → wpOp P ops Q (A.getD i 0) (fun a' w' => S w' ∧ I (i + 1) j a' w') a w)
    (hB : ∀ i j a w, j < B.length → I i j a w → wpOp P ops Q (B.getD j 0) (fun a' w' => S w' ∧ I i (j + 1) a' w') a w)
    (hQ : ∀ a w, I A.length B.length a w → Q .normal a w) :
    ∀ k i j a w, i ≤ A.length → j ≤ B.length → (A.length - i) + (B.length - j) = k → I i j a w → wpAnyH P md ops Q S k (chL ops.size pre A B i j) a w := by
  have hat : ∀ i j, i ≤ A.length → j ≤ B.length → chAt md ops pre A B i j = true := fun i j hi hj => by
    have h1 := List.all_eq_true.1 hok i (List.mem_range.2 (by omega))
    exact List.all_eq_true.1 h1 j (List.mem_range.2 (by omega))
  intro k
  induction k with
  | zero =>
    intro i j a w hi hj hk h
    obtain rfl : i = A.length := by omega
    obtain rfl : j = B.length := by omega
    refine ⟨?_, hQ a w h⟩
    have h1 := hat _ _ hi hj
    simp only [chAt, Bool.and_eq_true, Nat.lt_irrefl, decide_false, Bool.false_and, Bool.or_self, List.all_eq_true] at h1
    cases hl : Region.ready md ops (chL ops.size pre A B A.length B.length) with
    | nil => rfl
    | cons x xs =>
      have := h1.1.2 x (by rw [hl]; exact List.mem_cons_self ..)
      cases this
  | succ k ih =>
    intro i j a w hi hj hk h
    have h1 := hat i j hi hj
    simp only [chAt, Bool.and_eq_true, Bool.or_eq_true, Bool.not_eq_true', decide_eq_false_iff_not, List.all_eq_true, decide_eq_true_eq, beq_iff_eq] at h1
    obtain ⟨⟨⟨h2, h3⟩, h4⟩, h5⟩ := h1
    refine ⟨fun h0 => ?_, fun x hx => ?_⟩
    · rcases h5 with h5 | h5
      · rw [h0] at h5; cases h5
      · omega
    · rcases h4 x hx with ⟨hl, rfl⟩ | ⟨hl, rfl⟩
      · refine wpOp_mono (fun a' w' h' => ⟨h'.1, ?_⟩) (hA i j a w hl h)
        rw [h2.resolve_left (by omega)]
        exact ih (i + 1) j a' w' (by omega) hj (by omega) h'.2
      · refine wpOp_mono (fun a' w' h' => ⟨h'.1, ?_⟩) (hB i j a w hl h)
        rw [h3.resolve_left (by omega)]
        exact ih i (j + 1) a' w' hi (by omega) (by omega) h'.2
end

/-! Frames that differ in some slots alone. -/
def Agr (D : List Nat) (a0 a : Act) : Prop := a.defers = a0.defers ∧ a.tmps.size = a0.tmps.size ∧ ∀ t, t ∉ D → a.tmps[t]? = a0.tmps[t]?
theorem Agr.refl (D : List Nat) (a : Act) : Agr D a a := ⟨rfl, rfl, fun _ _ => rfl⟩
theorem Agr.put {D : List Nat} {a0 a : Act} (h : Agr D a0 a) {d : Option Tmp} (hd : ∀ t, d = some t → t ∈ D) (v : Value) : Agr D a0 (a.put d v) := by
  cases d with
  | none => exact h
  | some d =>
    refine ⟨h.1, by simp [Act.put, h.2.1], fun t ht => ?_⟩
    have hne : d ≠ t := fun e => ht (e ▸ hd d rfl)
    simp only [Act.put, Array.getElem?_setIfInBounds_ne hne]
    exact h.2.2 t ht
theorem Agr.eval {D : List Nat} {a0 a : Act} (h : Agr D a0 a) {t : Nat} (ht : t ∉ D) : a.eval (.tmp t) = a0.eval (.tmp t) := by
  show a.tmps.getD t undef = a0.tmps.getD t undef
  rw [Array.getD_eq_getD_getElem?, Array.getD_eq_getD_getElem?, h.2.2 t ht]
theorem put_same {a : Act} {d : Nat} (hd : d < a.tmps.size) (v : Value) : (a.put (some d) v).eval (.tmp d) = v := by
  show (a.tmps.setIfInBounds d v).getD d undef = v
  rw [Array.getD_eq_getD_getElem?]
  simp [hd]
theorem put_other {a : Act} {d : Option Tmp} {t : Nat} (h : d ≠ some t) (v : Value) : (a.put d v).eval (.tmp t) = a.eval (.tmp t) := by
  cases d with
  | none => rfl
  | some d =>
    show (a.tmps.setIfInBounds d v).getD t undef = a.tmps.getD t undef
    rw [Array.getD_eq_getD_getElem?, Array.getD_eq_getD_getElem?, Array.getElem?_setIfInBounds_ne (fun e => h (by rw [e]))]
/-- The slots written anew. -/
def putAll (f : Nat → Value) : List Nat → Act → Act
  | [], a => a
  | d :: D, a => putAll f D (a.put (some d) (f d))
theorem putAll_facts (f : Nat → Value) : ∀ (D : List Nat) (a : Act), (putAll f D a).defers = a.defers ∧ (putAll f D a).tmps.size = a.tmps.size ∧ ∀ t, (putAll f D a).tmps[t]? = if t ∈ D ∧ t < a.tmps.size then some (f t) else a.tmps[t]?
  | [], a => ⟨rfl, rfl, fun t => by simp [putAll]⟩
  | d :: D, a => by
    obtain ⟨h1, h2, h3⟩ := putAll_facts f D (a.put (some d) (f d))
    refine ⟨h1, by rw [putAll, h2]; simp [Act.put], fun t => ?_⟩
    rw [putAll, h3 t]
    have hs : (a.put (some d) (f d)).tmps.size = a.tmps.size := by simp [Act.put]
    rw [hs]
    by_cases hl : t < a.tmps.size
    · by_cases ht : t ∈ D
      · rw [if_pos ⟨ht, hl⟩, if_pos ⟨List.mem_cons_of_mem _ ht, hl⟩]
      · rw [if_neg (fun c => ht c.1)]
        by_cases hd : d = t
        · subst hd
          rw [if_pos ⟨List.mem_cons_self .., hl⟩]
          simp [Act.put, hl]
        · rw [if_neg (fun c => by rcases List.mem_cons.1 c.1 with e | e; exact hd e.symm; exact ht e)]
          simp only [Act.put, Array.getElem?_setIfInBounds_ne hd]
    · rw [if_neg (fun c => hl c.2), if_neg (fun c => hl c.2)]
      simp only [Act.put]
      rw [Array.getElem?_eq_none (by simpa using hl), Array.getElem?_eq_none (by simpa using hl)]
theorem Agr.form {D : List Nat} {a0 a : Act} (h : Agr D a0 a) : a = putAll (fun d => a.eval (.tmp d)) D a0 := by
  obtain ⟨h1, h2, h3⟩ := putAll_facts (fun d => a.eval (.tmp d)) D a0
  have e : a.tmps = (putAll (fun d => a.eval (.tmp d)) D a0).tmps := by
    apply Array.ext_getElem?
    intro t
    rw [h3 t]
    by_cases ht : t ∈ D
    · by_cases hl : t < a0.tmps.size
      · rw [if_pos ⟨ht, hl⟩]
        have hl' : t < a.tmps.size := by rw [h.2.1]; exact hl
        show a.tmps[t]? = some (a.tmps.getD t undef)
        rw [Array.getD_eq_getD_getElem?, Array.getElem?_eq_getElem hl']
        rfl
      · rw [if_neg (fun c => hl c.2), Array.getElem?_eq_none (by rw [h.2.1]; omega), Array.getElem?_eq_none (by omega)]
    · rw [if_neg (fun c => ht c.1)]
      exact h.2.2 t ht
  cases a
  cases hb : putAll (fun d => Act.eval _ (.tmp d)) D a0
  rw [hb] at h1 e
  simp only at h1 e
  subst e
  rw [h1]
  congr 1
  exact h.1

section
variable {P : Program} {ops : Array Oper} {Q : Exit → Act → World → Prop}

theorem wpOp_of_wp {i : Nat} {o : Oper} {a : Act} {w : World} {K : Act → World → Prop} (ho : ops[i]? = some o) (hg : o.guard = none) (h : o.wp P a w K Q) : wpOp P ops Q i K a w := by
  unfold wpOp
  simp only [ho]
  rw [if_pos (by simp [Region.wanted, hg])]
  exact .inl h
theorem wpOp_val {i : Nat} {o : Oper} {a : Act} {w w' : World} {v : Value} {K : Act → World → Prop} (ho : ops[i]? = some o) (hg : o.guard = none) (hr : (execOp a.eval o).run P w = .ok (.value v) w') (h : K (a.put o.dst v) w') : wpOp P ops Q i K a w :=
  wpOp_of_wp ho hg (by unfold Oper.wp; rw [hr]; exact h)
theorem wpOp_skip {i : Nat} {o : Oper} {a : Act} {w w' : World} {K : Act → World → Prop} (ho : ops[i]? = some o) (hg : o.guard = none) (hr : (execOp a.eval o).run P w = .ok .skip w') (h : K (a.put o.dst undef) w') : wpOp P ops Q i K a w :=
  wpOp_of_wp ho hg (by unfold Oper.wp; rw [hr]; exact h)
end

/-- 's.f = append(s.f, x)', s in a block of its own: what there is ahead of it. -/
structure Ch where
  b : Nat
  k : Nat
  T : TypeId
  cs : Array Value
  e : TypeId
  sz : Nat
  base : Nat
  v : Value
  n : Nat
  xs : List Value
  new : Array Value
  d1 : Nat
  d2 : Nat
  d3 : Nat
  d4 : Nat
def Ch.X (c : Ch) (g : Nat) : Prop := g = c.b ∨ c.v.ownBlock = some g
/-- Where the new row lies. -/
def Ch.New (c : Ch) (H0 : Nat) (v' : Value) (w : World) : Prop := v'.oneCell' = true ∧ w.ownsRow c.base c.e c.sz v' (c.n + 1) (c.xs ++ c.new.toList) ∧ (v'.ownBlock = c.v.ownBlock ∨ ∃ g, v'.ownBlock = some g ∧ H0 ≤ g)
/-- What holds of a chain of which the operations b0 (load), b1 (slice literal), b2 (append), b3 (the field's address), b4 (store) have come up. -/
structure Ch.St (c : Ch) (H0 : Nat) (b0 b1 b2 b3 b4 : Bool) (v : Value) (a : Act) (w : World) : Prop where
  blk : Blk w c.b (if b4 = true then c.cs.setIfInBounds c.k v else c.cs) c.T
  row : if b2 = true then c.New H0 v w else v = c.v ∧ w.ownsRow c.base c.e c.sz c.v c.n c.xs
  e1 : b0 = true → a.eval (.tmp c.d1) = c.v
  e2 : b1 = true → b2 = false → ∃ C, a.eval (.tmp c.d2) = .slice (some ⟨C, 0, none⟩) 1 1 ∧ Blk w C c.new c.e ∧ H0 ≤ C
  e3 : b2 = true → a.eval (.tmp c.d3) = v
  e4 : b3 = true → a.eval (.tmp c.d4) = .pointer (some ⟨c.b, c.k, none⟩)
theorem Ch.St.lt {c : Ch} {H0 : Nat} {b0 b1 b2 b3 b4 : Bool} {v : Value} {a : Act} {w : World} (h : c.St H0 b0 b1 b2 b3 b4 v a w) : ∀ g, v.ownBlock = some g → g < w.heap.size := by
  have hr := h.row
  cases b2 with
  | true => rw [if_pos rfl] at hr; exact fun g hg => (hr.2.1.lt g hg).2
  | false => rw [if_neg (by decide)] at hr; exact fun g hg => (hr.2.lt g (hr.1 ▸ hg)).2
theorem Ch.St.keep {c : Ch} {H0 : Nat} {X : Nat → Prop} {b0 b1 b2 b3 b4 : Bool} {v : Value} {a a' : Act} {w w' : World} (h : c.St H0 b0 b1 b2 b3 b4 v a w) (hm : Mod X w w') (hX : ∀ g, X g → g < H0 ∧ g ≠ c.b ∧ c.v.ownBlock ≠ some g)
    (h1 : a'.eval (.tmp c.d1) = a.eval (.tmp c.d1)) (h2 : a'.eval (.tmp c.d2) = a.eval (.tmp c.d2)) (h3 : a'.eval (.tmp c.d3) = a.eval (.tmp c.d3)) (h4 : a'.eval (.tmp c.d4) = a.eval (.tmp c.d4)) : c.St H0 b0 b1 b2 b3 b4 v a' w' := by
  have kN : ∀ v', c.New H0 v' w → c.New H0 v' w' := fun v' ⟨q1, q2, q3⟩ => ⟨q1, own_mod q2 hm (fun g hg hx => by
    rcases q3 with e | ⟨g', e, hl⟩
    · exact (hX _ hx).2.2 (e ▸ hg)
    · rw [hg] at e; injection e with e; subst e; exact Nat.not_lt.2 hl (hX _ hx).1), q3⟩
  refine ⟨h.blk.mod hm (fun hx => (hX _ hx).2.1 rfl), ?_, fun e => h1.trans (h.e1 e), fun e e' => ?_, fun e => h3.trans (h.e3 e), fun e => h4.trans (h.e4 e)⟩
  · have hr := h.row
    cases b2 with
    | true => rw [if_pos rfl] at hr ⊢; exact kN v hr
    | false => rw [if_neg (by decide)] at hr ⊢; exact ⟨hr.1, own_mod hr.2 hm (fun g hg hx => (hX _ hx).2.2 hg)⟩
  · obtain ⟨C, q1, q2, q3⟩ := h.e2 e e'
    exact ⟨C, h2.trans q1, q2.mod hm (fun hx => Nat.not_lt.2 q3 (hX _ hx).1), q3⟩
/-- The chain's five operations. -/
structure Ch.Ops (c : Ch) (P : Program) (ops : Array Oper) (D : List Nat) (a0 : Act) (S : World → Prop) (i0 i1 i2 i3 i4 : Nat) : Prop where
  d1 : c.d1 < a0.tmps.size
  d2 : c.d2 < a0.tmps.size
  d3 : c.d3 < a0.tmps.size
  d4 : c.d4 < a0.tmps.size
  dd : c.d1 ≠ c.d2 ∧ c.d1 ≠ c.d3 ∧ c.d1 ≠ c.d4 ∧ c.d2 ≠ c.d3 ∧ c.d2 ≠ c.d4 ∧ c.d3 ≠ c.d4
  D1 : c.d1 ∈ D
  D2 : c.d2 ∈ D
  D3 : c.d3 ∈ D
  D4 : c.d4 ∈ D
  load : ∃ o, ops[i0]? = some o ∧ o.guard = none ∧ o.dst = some c.d1 ∧ ∀ a w, Agr D a0 a → w.cell? ⟨c.b, c.k, none⟩ = some c.v → (execOp a.eval o).run P w = .ok (.value c.v) w
  make : ∃ o, ops[i1]? = some o ∧ o.guard = none ∧ o.dst = some c.d2 ∧ ∀ a w, Agr D a0 a → (execOp a.eval o).run P w = .ok (.value (.slice (some ⟨w.heap.size, 0, none⟩) 1 1)) (w.alloc (.cells c.new c.e))
  app : ∃ o t i z by_, ops[i2]? = some o ∧ o.guard = none ∧ o.dst = some c.d3 ∧ o.op = .call { callee := .builtin .append, args := #[.tmp c.d1, .tmp c.d2], argTypes := #[t, t] } ∧ P.underlying t = some (.slice c.e) ∧ P.info? c.e = some i ∧ i.zero = some z ∧ i.size = c.sz ∧ i.bytes = by_ ∧ z.cells.size = c.sz ∧ (c.n + 1) * by_ ≤ 140737488355328
  fa : ∃ o, ops[i3]? = some o ∧ o.guard = none ∧ o.dst = some c.d4 ∧ ∀ a w, Agr D a0 a → (execOp a.eval o).run P w = .ok (.value (.pointer (some ⟨c.b, c.k, none⟩))) w
  put : ∃ o, ops[i4]? = some o ∧ o.guard = none ∧ o.dst = none ∧ ∀ (a : Act) (w : World) (v u : Value), a.eval (.tmp c.d4) = .pointer (some ⟨c.b, c.k, none⟩) → a.eval (.tmp c.d3) = v → v.oneCell' = true → w.cell? ⟨c.b, c.k, none⟩ = some u → w.frozen? ⟨c.b, c.k, none⟩ = false → (execOp a.eval o).run P w = .ok .skip (w.setCell ⟨c.b, c.k, none⟩ v)
  hTe : c.T ≠ c.e
  sz : 0 < c.sz
  newz : c.new.size = c.sz
  one : ∀ u ∈ c.new.toList, u.oneCell' = true
  h63 : c.n + 1 ≤ maxLen
  cell : c.cs[c.k]? = some c.v
theorem oneCell_slice (A : Option Addr) (n c : Nat) : (Value.slice A n c).oneCell' = true := rfl
/-- Where a row moves to: it stays, or lies in a block that is new. -/
def moved (v v' : Value) (w : World) : Prop := v'.ownBlock = v.ownBlock ∨ ∃ g, v'.ownBlock = some g ∧ w.heap.size ≤ g
theorem ite_t {X Y : Prop} (h : X) : if true = true then X else Y := h
theorem ite_f {X Y : Prop} (h : Y) : if false = true then X else Y := h
/-- Behind one step of a chain. -/
def Ch.After (c : Ch) (F : Value → Act → World → Prop) (v : Value) (a : Act) (w : World) (a' : Act) (w' : World) : Prop :=
  (∃ v', F v' a' w' ∧ moved v v' w) ∧ Mod c.X w w' ∧ ∃ d u, a' = a.put d u ∧ ∀ t, d = some t → t = c.d1 ∨ t = c.d2 ∨ t = c.d3 ∨ t = c.d4
section
variable {c : Ch} {P : Program} {ops : Array Oper} {Q : Exit → Act → World → Prop} {D : List Nat} {a0 : Act} {S : World → Prop} {i0 i1 i2 i3 i4 H0 : Nat} {b0 b1 b2 b3 b4 : Bool} {v : Value} {a : Act} {w : World}
theorem Ch.step0 (h : c.Ops P ops D a0 S i0 i1 i2 i3 i4) (hag : Agr D a0 a) (hst : c.St H0 b0 b1 b2 b3 b4 v a w) (h4 : b4 = false) :
    wpOp P ops Q i0 (fun a' w' => c.After (c.St H0 true b1 b2 b3 b4) v a w a' w') a w := by
  obtain ⟨o, ho, hg, hd, hrun⟩ := h.load
  have hb := hst.blk
  subst h4
  rw [if_neg (by decide)] at hb
  refine wpOp_val ho hg (hrun a w hag ((hb.cell c.k).trans h.cell)) ?_
  rw [hd]
  obtain ⟨d1, d2, d3, d4, d5, d6⟩ := h.dd
  have ne : ∀ {x y : Nat}, x ≠ y → (some x : Option Tmp) ≠ some y := fun h e => h (by injection e)
  exact ⟨⟨v, ⟨hst.blk, hst.row, fun _ => put_same (by rw [hag.2.1]; exact h.d1) _, fun e e' => by obtain ⟨C, q1, q2⟩ := hst.e2 e e'; exact ⟨C, (put_other (ne d1) _).trans q1, q2⟩, fun e => (put_other (ne d2) _).trans (hst.e3 e), fun e => (put_other (ne d3) _).trans (hst.e4 e)⟩, .inl rfl⟩, Mod.refl _ _, some c.d1, c.v, rfl, fun t ht => by injection ht with ht; exact .inl ht.symm⟩
theorem Ch.step1 (h : c.Ops P ops D a0 S i0 i1 i2 i3 i4) (hag : Agr D a0 a) (hH : H0 ≤ w.heap.size) (hst : c.St H0 b0 b1 b2 b3 b4 v a w) (h2 : b2 = false) :
    wpOp P ops Q i1 (fun a' w' => c.After (c.St H0 b0 true b2 b3 b4) v a w a' w') a w := by
  obtain ⟨o, ho, hg, hd, hrun⟩ := h.make
  refine wpOp_val ho hg (hrun a w hag) ?_
  rw [hd]
  subst h2
  have hr := hst.row
  rw [if_neg (by decide)] at hr
  obtain ⟨d1, d2, d3, d4, d5, d6⟩ := h.dd
  have ne : ∀ {x y : Nat}, x ≠ y → (some x : Option Tmp) ≠ some y := fun h e => h (by injection e)
  refine ⟨⟨v, ⟨hst.blk.alloc _, by rw [if_neg (by decide)]; exact ⟨hr.1, hr.2.alloc _⟩, fun e => (put_other (ne (Ne.symm d1)) _).trans (hst.e1 e), fun _ _ => ⟨w.heap.size, put_same (by rw [hag.2.1]; exact h.d2) _, Blk.new _ _ _, hH⟩, fun e => (by cases e), fun e => (put_other (ne d5) _).trans (hst.e4 e)⟩, .inl rfl⟩, (Mod.refl _ _).alloc _, some c.d2, _, rfl, fun t ht => by injection ht with ht; exact .inr (.inl ht.symm)⟩
theorem Ch.step2 (h : c.Ops P ops D a0 S i0 i1 i2 i3 i4) (hag : Agr D a0 a) (hH : H0 ≤ w.heap.size) (hbase : c.base ≤ w.heap.size) (hst : c.St H0 b0 b1 b2 b3 b4 v a w) (h0 : b0 = true) (h1 : b1 = true) (h2 : b2 = false) (h4 : b4 = false) :
    wpOp P ops Q i2 (fun a' w' => c.After (c.St H0 b0 b1 true b3 b4) v a w a' w') a w := by
  obtain ⟨o, t, ti, z, by_, ho, hg, hd, hop, ht, hti, hz, hsz, hby, hzs, hbytes⟩ := h.app
  have hr := hst.row
  have hb := hst.blk
  subst h2 h4
  rw [if_neg (by decide)] at hr hb
  obtain ⟨e0, hown0⟩ := hr
  obtain ⟨C, e2, hC, hCH⟩ := hst.e2 h1 rfl
  rw [e0]
  refine wpOp_of_wp ho hg (wp_append_lies w (.tmp c.d1) (.tmp c.d2) t hop c.base c.e ti z c.sz by_ ht hti hz hsz hby hzs h.sz c.v c.n c.xs (hst.e1 h0) hown0 ⟨C, 0, none⟩ 1 1 c.new.toList e2 (by simpa using h.newz) (World.news_of_block hC) h.one (by omega) h.h63 hbytes hbase w.heap.size rfl ?_)
  intro g cap w1 hown hgrow hat hlt
  rw [hd]
  obtain ⟨d1, d2, d3, d4, d5, d6⟩ := h.dd
  have ne : ∀ {x y : Nat}, x ≠ y → (some x : Option Tmp) ≠ some y := fun h e => h (by injection e)
  have hm : Mod c.X w w1 := (Mod.refl _ _).grown hgrow (fun k hk => .inl (.inr hk))
  refine ⟨⟨_, ⟨by rw [if_neg (by decide)]; exact hb.grown hgrow (own_ne hown0 hb h.hTe), ite_t ⟨oneCell_slice _ _ _, hown, ?_⟩, fun e => (put_other (ne (Ne.symm d2)) _).trans (hst.e1 e), fun _ e => (by cases e), fun _ => put_same (by rw [hag.2.1]; exact h.d3) _, fun e => (put_other (ne d6) _).trans (hst.e4 e)⟩, ?_⟩, hm, some c.d3, _, rfl, fun t ht => by injection ht with ht; exact .inr (.inr (.inl ht.symm))⟩
  · rcases hat with e | e
    · exact .inl e.symm
    · exact .inr ⟨g, rfl, by omega⟩
  · rcases hat with e | e
    · exact .inl e.symm
    · exact .inr ⟨g, rfl, by omega⟩
theorem Ch.step3 (h : c.Ops P ops D a0 S i0 i1 i2 i3 i4) (hag : Agr D a0 a) (hst : c.St H0 b0 b1 b2 b3 b4 v a w) :
    wpOp P ops Q i3 (fun a' w' => c.After (c.St H0 b0 b1 b2 true b4) v a w a' w') a w := by
  obtain ⟨o, ho, hg, hd, hrun⟩ := h.fa
  refine wpOp_val ho hg (hrun a w hag) ?_
  rw [hd]
  obtain ⟨d1, d2, d3, d4, d5, d6⟩ := h.dd
  have ne : ∀ {x y : Nat}, x ≠ y → (some x : Option Tmp) ≠ some y := fun h e => h (by injection e)
  exact ⟨⟨v, ⟨hst.blk, hst.row, fun e => (put_other (ne (Ne.symm d3)) _).trans (hst.e1 e), fun e e' => by obtain ⟨C, q1, q2⟩ := hst.e2 e e'; exact ⟨C, (put_other (ne (Ne.symm d5)) _).trans q1, q2⟩, fun e => (put_other (ne (Ne.symm d6)) _).trans (hst.e3 e), fun _ => put_same (by rw [hag.2.1]; exact h.d4) _⟩, .inl rfl⟩, Mod.refl _ _, some c.d4, _, rfl, fun t ht => by injection ht with ht; exact .inr (.inr (.inr ht.symm))⟩
theorem Ch.step4 (h : c.Ops P ops D a0 S i0 i1 i2 i3 i4) (hst : c.St H0 b0 b1 b2 b3 b4 v a w) (h2 : b2 = true) (h3 : b3 = true) (h4 : b4 = false) :
    wpOp P ops Q i4 (fun a' w' => c.After (c.St H0 b0 b1 b2 b3 true) v a w a' w') a w := by
  obtain ⟨o, ho, hg, hd, hrun⟩ := h.put
  have hr := hst.row
  have hb := hst.blk
  subst h2 h4
  rw [if_pos rfl] at hr
  rw [if_neg (by decide)] at hb
  refine wpOp_skip ho hg (hrun a w v c.v (hst.e4 h3) (hst.e3 rfl) hr.1 ((hb.cell c.k).trans h.cell) (hb.frozen c.k)) ?_
  rw [hd]
  have hm : Mod c.X w (w.setCell ⟨c.b, c.k, none⟩ v) := (Mod.refl _ _).setCell (.inl (.inl rfl)) _
  refine ⟨⟨v, ⟨by rw [if_pos rfl]; exact hb.set c.k v, ite_t ⟨hr.1, ?_, hr.2.2⟩, hst.e1, fun _ e => (by cases e), hst.e3, hst.e4⟩, .inl rfl⟩, hm, none, undef, rfl, fun t ht => by cases ht⟩
  exact own_mod hr.2.1 ((Mod.refl (· = c.b) _).setCell (p := ⟨c.b, c.k, none⟩) (.inl rfl) _) (fun g hg e => own_ne hr.2.1 hb h.hTe (e ▸ hg))
end

/-! Whatever order: by the set of those that have come up. -/
def on (L : Array Bool) (i : Nat) : Bool := L.getD i false
theorem on_set {L : Array Bool} {i j : Nat} (hi : i < L.size) : on (L.setIfInBounds i true) j = (decide (i = j) || on L j) := by
  unfold on
  by_cases h : i = j
  · subst h; simp [hi]
  · simp [h, Array.getD_eq_getD_getElem?, Array.getElem?_setIfInBounds_ne h]
def nextL (md : Region.Mode) (ops : Array Oper) (Ls : List (Array Bool)) : List (Array Bool) := (Ls.flatMap fun L => (Region.ready md ops L).map fun i => L.setIfInBounds i true).eraseDups
def reachL (md : Region.Mode) (ops : Array Oper) : Nat → List (Array Bool) → List (Array Bool)
  | 0, Ls => Ls
  | n + 1, Ls => Ls ++ reachL md ops n (nextL md ops Ls)
def chSt (i0 i1 i2 i3 i4 : Nat) (L : Array Bool) : Bool := (!on L i2 || (on L i0 && on L i1)) && (!on L i4 || (on L i2 && on L i3))
def ordOk (md : Region.Mode) (ops : Array Oper) (K : List Nat) (cs : Array Bool → Bool) (Ls : List (Array Bool)) : Bool := Ls.all fun L =>
  L.size == ops.size && cs L && ((Region.ready md ops L).all fun i => K.contains i && (!on L i && Ls.contains (L.setIfInBounds i true))) && (!(Region.ready md ops L).isEmpty || K.all (on L))
def rest (K : List Nat) (L : Array Bool) : Nat := (K.filter fun i => !on L i).length
theorem rest_set {K : List Nat} {L : Array Bool} {i : Nat} (hn : K.Nodup) (hi : i ∈ K) (hs : i < L.size) (ho : on L i = false) : rest K (L.setIfInBounds i true) + 1 = rest K L := by
  unfold rest
  induction K with
  | nil => cases hi
  | cons x K ih =>
    rw [List.nodup_cons] at hn
    rcases List.mem_cons.1 hi with rfl | hi
    · have hk : (K.filter fun j => !on (L.setIfInBounds i true) j) = K.filter fun j => !on L j := by
        apply List.filter_congr
        intro j hj
        have hne : i ≠ j := fun e => hn.1 (e ▸ hj)
        rw [on_set hs]; simp [hne]
      have e1 : on (L.setIfInBounds i true) i = true := by rw [on_set hs]; simp
      simp [e1, ho, hk]
    · have hne : i ≠ x := fun e => hn.1 (e ▸ hi)
      have e1 : on (L.setIfInBounds i true) x = on L x := by rw [on_set hs]; simp [hne]
      have := ih hn.2 hi
      by_cases hx : on L x = true
      · simp [e1, hx]; simpa using this
      · simp only [Bool.not_eq_true] at hx
        simp [e1, hx]; simpa using this
theorem any_order {P : Program} {ops : Array Oper} {Q : Exit → Act → World → Prop} {md : Region.Mode} {S : World → Prop} {K : List Nat} {cs : Array Bool → Bool} {Ls : List (Array Bool)} (hok : ordOk md ops K cs Ls = true) (hn : K.Nodup) (hK : ∀ i ∈ K, i < ops.size) (I : Array Bool → Act → World → Prop)
    (hstep : ∀ L i a w, L.size = ops.size → cs L = true → cs (L.setIfInBounds i true) = true → i ∈ K → on L i = false → I L a w → wpOp P ops Q i (fun a' w' => S w' ∧ I (L.setIfInBounds i true) a' w') a w)
    (hend : ∀ L a w, K.all (on L) = true → I L a w → Q .normal a w) :
    ∀ k L a w, L ∈ Ls → rest K L = k → I L a w → wpAnyH P md ops Q S k L a w := by
  have hat : ∀ L ∈ Ls, L.size = ops.size ∧ cs L = true ∧ (∀ i ∈ Region.ready md ops L, i ∈ K ∧ on L i = false ∧ (L.setIfInBounds i true) ∈ Ls) ∧ (Region.ready md ops L = [] → K.all (on L) = true) := fun L hL => by
    have h1 := List.all_eq_true.1 hok L hL
    simp only [Bool.and_eq_true, Bool.or_eq_true, beq_iff_eq] at h1
    obtain ⟨⟨⟨q1, q2⟩, q3⟩, q4⟩ := h1
    refine ⟨q1, q2, fun i hi => ?_, fun he => ?_⟩
    · have := List.all_eq_true.1 q3 i hi
      simp only [Bool.and_eq_true, Bool.not_eq_true', List.contains_eq_mem, decide_eq_true_eq] at this
      exact ⟨this.1, this.2.1, this.2.2⟩
    · rcases q4 with q4 | q4
      · rw [he] at q4; cases q4
      · exact q4
  intro k
  induction k with
  | zero =>
    intro L a w hL hk hI
    obtain ⟨q1, q2, q3, q4⟩ := hat L hL
    have hr : Region.ready md ops L = [] := by
      cases hl : Region.ready md ops L with
      | nil => rfl
      | cons i r =>
        obtain ⟨p1, p2, p3⟩ := q3 i (by rw [hl]; exact List.mem_cons_self ..)
        have := rest_set hn p1 (q1 ▸ hK i p1) p2
        omega
    exact ⟨hr, hend L a w (q4 hr) hI⟩
  | succ k ih =>
    intro L a w hL hk hI
    obtain ⟨q1, q2, q3, q4⟩ := hat L hL
    refine ⟨fun h0 => hend L a w (q4 h0) hI, fun i hi => ?_⟩
    obtain ⟨p1, p2, p3⟩ := q3 i hi
    have hr := rest_set hn p1 (q1 ▸ hK i p1) p2
    refine wpOp_mono (fun a' w' h' => ⟨h'.1, ih _ a' w' p3 (by omega) h'.2⟩) (hstep L i a w q1 q2 (hat _ p3).2.1 p1 p2 hI)
/-- Both chains, in whatever order. -/
theorem appends2 {cA cB : Ch} {P : Program} {ops : Array Oper} {Q : Exit → Act → World → Prop} {D : List Nat} {a0 : Act} {w0 : World} {S : World → Prop} {L0 : Array Bool} {n i0 i1 i2 i3 i4 j0 j1 j2 j3 j4 : Nat}
    (hA : cA.Ops P ops D a0 S i0 i1 i2 i3 i4) (hB : cB.Ops P ops D a0 S j0 j1 j2 j3 j4) (hok : ordOk .any ops [i0, i1, i2, i3, i4, j0, j1, j2, j3, j4] (fun L => chSt i0 i1 i2 i3 i4 L && chSt j0 j1 j2 j3 j4 L) (reachL .any ops n [L0]) = true)
    (hn : [i0, i1, i2, i3, i4, j0, j1, j2, j3, j4].Nodup) (hK : ∀ i ∈ [i0, i1, i2, i3, i4, j0, j1, j2, j3, j4], i < ops.size) (hL0 : ([i0, i1, i2, i3, i4, j0, j1, j2, j3, j4].all fun i => !on L0 i) = true)
    (hdis : ([cA.d1, cA.d2, cA.d3, cA.d4].all fun x => !([cB.d1, cB.d2, cB.d3, cB.d4].contains x)) = true) (hap : ∀ g, cA.v.ownBlock = some g → cB.v.ownBlock ≠ some g)
    (hXA : ∀ g, cA.X g → g < w0.heap.size ∧ g ≠ cB.b ∧ cB.v.ownBlock ≠ some g) (hXB : ∀ g, cB.X g → g < w0.heap.size ∧ g ≠ cA.b ∧ cA.v.ownBlock ≠ some g)
    (hS : ∀ w, Mod (fun g => cA.X g ∨ cB.X g) w0 w → S w) (hbA : cA.base ≤ w0.heap.size) (hbB : cB.base ≤ w0.heap.size)
    (h0 : Blk w0 cA.b cA.cs cA.T) (h1 : w0.ownsRow cA.base cA.e cA.sz cA.v cA.n cA.xs) (h2 : Blk w0 cB.b cB.cs cB.T) (h3 : w0.ownsRow cB.base cB.e cB.sz cB.v cB.n cB.xs)
    (hQ : ∀ a w vA vB, Agr D a0 a → Mod (fun g => cA.X g ∨ cB.X g) w0 w → Blk w cA.b (cA.cs.setIfInBounds cA.k vA) cA.T → cA.New w0.heap.size vA w → Blk w cB.b (cB.cs.setIfInBounds cB.k vB) cB.T → cB.New w0.heap.size vB w → (∀ g, vA.ownBlock = some g → vB.ownBlock ≠ some g) → Q .normal a w) :
    wpAnyH P .any ops Q S 10 L0 a0 w0 := by
  have hne : ∀ x y, (x = cA.d1 ∨ x = cA.d2 ∨ x = cA.d3 ∨ x = cA.d4) → (y = cB.d1 ∨ y = cB.d2 ∨ y = cB.d3 ∨ y = cB.d4) → x ≠ y := fun x y hx hy e => by
    subst e
    have := List.all_eq_true.1 hdis x (by simpa using hx)
    simp only [Bool.not_eq_true', List.contains_eq_mem, decide_eq_false_iff_not] at this
    exact this (by simpa using hy)
  have hz : ∀ i ∈ [i0, i1, i2, i3, i4, j0, j1, j2, j3, j4], on L0 i = false := fun i hi => by simpa using List.all_eq_true.1 hL0 i hi
  have hmem : L0 ∈ reachL .any ops n [L0] := by
    cases n with
    | zero => exact List.mem_singleton.2 rfl
    | succ n => exact List.mem_append_left _ (List.mem_singleton.2 rfl)
  have hrest : rest [i0, i1, i2, i3, i4, j0, j1, j2, j3, j4] L0 = 10 := by
    unfold rest
    rw [List.filter_eq_self.2 (fun i hi => by simp [hz i hi])]
    rfl
  have dst : ∀ (a : Act) (L : Array Bool), Agr D a0 a → True := fun _ _ _ => trivial
  refine any_order hok hn hK (fun L a w => Agr D a0 a ∧ Mod (fun g => cA.X g ∨ cB.X g) w0 w ∧ ∃ vA vB, cA.St w0.heap.size (on L i0) (on L i1) (on L i2) (on L i3) (on L i4) vA a w ∧ cB.St w0.heap.size (on L j0) (on L j1) (on L j2) (on L j3) (on L j4) vB a w ∧ ∀ g, vA.ownBlock = some g → vB.ownBlock ≠ some g) ?_ ?_ 10 L0 a0 w0 hmem hrest ?_
  · rintro L i a w hsz hcs hcs' hi ho ⟨hag, hm, vA, vB, hsA, hsB, hab⟩
    have hset : ∀ j, on (L.setIfInBounds i true) j = (decide (i = j) || on L j) := fun j => on_set (by rw [hsz]; exact hK i hi)
    simp only [Bool.and_eq_true, chSt, Bool.or_eq_true, Bool.not_eq_true'] at hcs hcs'
    obtain ⟨⟨a1, a2⟩, a3, a4⟩ := hcs
    obtain ⟨⟨b1, b2⟩, b3, b4⟩ := hcs'
    have A0 : on L i0 = false → on L i2 = false := fun h => by rcases a1 with e | e; exact e; rw [h] at e; cases e.1
    have A1 : on L i1 = false → on L i2 = false := fun h => by rcases a1 with e | e; exact e; rw [h] at e; cases e.2
    have A2 : on L i2 = false → on L i4 = false := fun h => by rcases a2 with e | e; exact e; rw [h] at e; cases e.1
    have B0 : on L j0 = false → on L j2 = false := fun h => by rcases a3 with e | e; exact e; rw [h] at e; cases e.1
    have B1 : on L j1 = false → on L j2 = false := fun h => by rcases a3 with e | e; exact e; rw [h] at e; cases e.2
    have B2 : on L j2 = false → on L j4 = false := fun h => by rcases a4 with e | e; exact e; rw [h] at e; cases e.1
    have stepA : ∀ {F : Value → Act → World → Prop}, (∀ v' a' w', F v' a' w' → cA.St w0.heap.size (on (L.setIfInBounds i true) i0) (on (L.setIfInBounds i true) i1) (on (L.setIfInBounds i true) i2) (on (L.setIfInBounds i true) i3) (on (L.setIfInBounds i true) i4) v' a' w') → (∀ j, (j = j0 ∨ j = j1 ∨ j = j2 ∨ j = j3 ∨ j = j4) → i ≠ j) →
        wpOp P ops Q i (fun a' w' => cA.After F vA a w a' w') a w → wpOp P ops Q i (fun a' w' => S w' ∧ Agr D a0 a' ∧ Mod (fun g => cA.X g ∨ cB.X g) w0 w' ∧ ∃ vA vB, cA.St w0.heap.size (on (L.setIfInBounds i true) i0) (on (L.setIfInBounds i true) i1) (on (L.setIfInBounds i true) i2) (on (L.setIfInBounds i true) i3) (on (L.setIfInBounds i true) i4) vA a' w' ∧ cB.St w0.heap.size (on (L.setIfInBounds i true) j0) (on (L.setIfInBounds i true) j1) (on (L.setIfInBounds i true) j2) (on (L.setIfInBounds i true) j3) (on (L.setIfInBounds i true) j4) vB a' w' ∧ ∀ g, vA.ownBlock = some g → vB.ownBlock ≠ some g) a w := by
      intro F hF hij hw
      refine wpOp_mono ?_ hw
      rintro a' w' ⟨⟨v', q1, q4⟩, q2, d, u, rfl, hd⟩
      have hm' := hm.trans (q2.weaken fun k _ hk => (.inl hk : cA.X k ∨ cB.X k))
      have eB : ∀ j, (j = j0 ∨ j = j1 ∨ j = j2 ∨ j = j3 ∨ j = j4) → on (L.setIfInBounds i true) j = on L j := fun j hj => by rw [hset]; simp [hij j hj]
      refine ⟨hS _ hm', hag.put (fun t ht => by rcases hd t ht with e | e | e | e <;> subst e; exact hA.D1; exact hA.D2; exact hA.D3; exact hA.D4) u, hm', v', vB, hF _ _ _ q1, ?_, ?_⟩
      · rw [eB j0 (by simp), eB j1 (by simp), eB j2 (by simp), eB j3 (by simp), eB j4 (by simp)]
        refine hsB.keep q2 hXA ?_ ?_ ?_ ?_
        iterate 4 exact put_other (fun e => hne _ _ (hd _ e) (by simp) rfl) _
      · intro g hg hg'
        rcases q4 with e | ⟨g2, e, hl⟩
        · exact hab g (e ▸ hg) hg'
        · rw [hg] at e; injection e with e; subst e
          exact absurd (hsB.lt g hg') (Nat.not_lt.2 hl)
    have stepB : ∀ {F : Value → Act → World → Prop}, (∀ v' a' w', F v' a' w' → cB.St w0.heap.size (on (L.setIfInBounds i true) j0) (on (L.setIfInBounds i true) j1) (on (L.setIfInBounds i true) j2) (on (L.setIfInBounds i true) j3) (on (L.setIfInBounds i true) j4) v' a' w') → (∀ j, (j = i0 ∨ j = i1 ∨ j = i2 ∨ j = i3 ∨ j = i4) → i ≠ j) →
        wpOp P ops Q i (fun a' w' => cB.After F vB a w a' w') a w → wpOp P ops Q i (fun a' w' => S w' ∧ Agr D a0 a' ∧ Mod (fun g => cA.X g ∨ cB.X g) w0 w' ∧ ∃ vA vB, cA.St w0.heap.size (on (L.setIfInBounds i true) i0) (on (L.setIfInBounds i true) i1) (on (L.setIfInBounds i true) i2) (on (L.setIfInBounds i true) i3) (on (L.setIfInBounds i true) i4) vA a' w' ∧ cB.St w0.heap.size (on (L.setIfInBounds i true) j0) (on (L.setIfInBounds i true) j1) (on (L.setIfInBounds i true) j2) (on (L.setIfInBounds i true) j3) (on (L.setIfInBounds i true) j4) vB a' w' ∧ ∀ g, vA.ownBlock = some g → vB.ownBlock ≠ some g) a w := by
      intro F hF hij hw
      refine wpOp_mono ?_ hw
      rintro a' w' ⟨⟨v', q1, q4⟩, q2, d, u, rfl, hd⟩
      have hm' := hm.trans (q2.weaken fun k _ hk => (.inr hk : cA.X k ∨ cB.X k))
      have eA : ∀ j, (j = i0 ∨ j = i1 ∨ j = i2 ∨ j = i3 ∨ j = i4) → on (L.setIfInBounds i true) j = on L j := fun j hj => by rw [hset]; simp [hij j hj]
      refine ⟨hS _ hm', hag.put (fun t ht => by rcases hd t ht with e | e | e | e <;> subst e; exact hB.D1; exact hB.D2; exact hB.D3; exact hB.D4) u, hm', vA, v', ?_, hF _ _ _ q1, ?_⟩
      · rw [eA i0 (by simp), eA i1 (by simp), eA i2 (by simp), eA i3 (by simp), eA i4 (by simp)]
        refine hsA.keep q2 hXB ?_ ?_ ?_ ?_
        iterate 4 exact put_other (fun e => hne _ _ (by simp) (hd _ e) rfl) _
      · intro g hg hg'
        rcases q4 with e | ⟨g2, e, hl⟩
        · exact hab g hg (e ▸ hg')
        · rw [hg'] at e; injection e with e; subst e
          exact absurd (hsA.lt g hg) (Nat.not_lt.2 hl)
    simp only [List.nodup_cons, List.mem_cons, List.not_mem_nil, or_false, not_or, List.nodup_nil, and_true, not_false_eq_true] at hn
    obtain ⟨⟨n01, n02, n03, n04, m00, m01, m02, m03, m04⟩, ⟨n12, n13, n14, m10, m11, m12, m13, m14⟩, ⟨n23, n24, m20, m21, m22, m23, m24⟩, ⟨n34, m30, m31, m32, m33, m34⟩, ⟨m40, m41, m42, m43, m44⟩, ⟨k01, k02, k03, k04⟩, ⟨k12, k13, k14⟩, ⟨k23, k24⟩, k34⟩ := hn
    simp only [List.mem_cons, List.not_mem_nil, or_false] at hi
    rcases hi with rfl | rfl | rfl | rfl | rfl | rfl | rfl | rfl | rfl | rfl
    · have f0 : on (L.setIfInBounds i true) i = true := by rw [hset]; simp
      have f1 : on (L.setIfInBounds i true) i1 = on L i1 := by rw [hset]; simp [show i ≠ i1 from n01]
      have f2 : on (L.setIfInBounds i true) i2 = on L i2 := by rw [hset]; simp [show i ≠ i2 from n02]
      have f3 : on (L.setIfInBounds i true) i3 = on L i3 := by rw [hset]; simp [show i ≠ i3 from n03]
      have f4 : on (L.setIfInBounds i true) i4 = on L i4 := by rw [hset]; simp [show i ≠ i4 from n04]
      exact stepA (fun v' a' w' q => by rw [f0, f1, f2, f3, f4]; exact q) (by rintro j (rfl | rfl | rfl | rfl | rfl); exact m00; exact m01; exact m02; exact m03; exact m04) (Ch.step0 hA hag hsA (A2 (A0 ho)))
    · have f0 : on (L.setIfInBounds i true) i0 = on L i0 := by rw [hset]; simp [show i ≠ i0 from Ne.symm n01]
      have f1 : on (L.setIfInBounds i true) i = true := by rw [hset]; simp
      have f2 : on (L.setIfInBounds i true) i2 = on L i2 := by rw [hset]; simp [show i ≠ i2 from n12]
      have f3 : on (L.setIfInBounds i true) i3 = on L i3 := by rw [hset]; simp [show i ≠ i3 from n13]
      have f4 : on (L.setIfInBounds i true) i4 = on L i4 := by rw [hset]; simp [show i ≠ i4 from n14]
      exact stepA (fun v' a' w' q => by rw [f0, f1, f2, f3, f4]; exact q) (by rintro j (rfl | rfl | rfl | rfl | rfl); exact m10; exact m11; exact m12; exact m13; exact m14) (Ch.step1 hA hag hm.size hsA (A1 ho))
    · have f0 : on (L.setIfInBounds i true) i0 = on L i0 := by rw [hset]; simp [show i ≠ i0 from Ne.symm n02]
      have f1 : on (L.setIfInBounds i true) i1 = on L i1 := by rw [hset]; simp [show i ≠ i1 from Ne.symm n12]
      have f2 : on (L.setIfInBounds i true) i = true := by rw [hset]; simp
      have f3 : on (L.setIfInBounds i true) i3 = on L i3 := by rw [hset]; simp [show i ≠ i3 from n23]
      have f4 : on (L.setIfInBounds i true) i4 = on L i4 := by rw [hset]; simp [show i ≠ i4 from n24]
      have d : on L i0 = true ∧ on L i1 = true := by rcases b1 with e | e; rw [f2] at e; cases e; rw [f0, f1] at e; exact e
      exact stepA (fun v' a' w' q => by rw [f0, f1, f2, f3, f4]; exact q) (by rintro j (rfl | rfl | rfl | rfl | rfl); exact m20; exact m21; exact m22; exact m23; exact m24) (Ch.step2 hA hag hm.size (Nat.le_trans hbA hm.size) hsA d.1 d.2 ho (A2 ho))
    · have f0 : on (L.setIfInBounds i true) i0 = on L i0 := by rw [hset]; simp [show i ≠ i0 from Ne.symm n03]
      have f1 : on (L.setIfInBounds i true) i1 = on L i1 := by rw [hset]; simp [show i ≠ i1 from Ne.symm n13]
      have f2 : on (L.setIfInBounds i true) i2 = on L i2 := by rw [hset]; simp [show i ≠ i2 from Ne.symm n23]
      have f3 : on (L.setIfInBounds i true) i = true := by rw [hset]; simp
      have f4 : on (L.setIfInBounds i true) i4 = on L i4 := by rw [hset]; simp [show i ≠ i4 from n34]
      exact stepA (fun v' a' w' q => by rw [f0, f1, f2, f3, f4]; exact q) (by rintro j (rfl | rfl | rfl | rfl | rfl); exact m30; exact m31; exact m32; exact m33; exact m34) (Ch.step3 hA hag hsA)
    · have f0 : on (L.setIfInBounds i true) i0 = on L i0 := by rw [hset]; simp [show i ≠ i0 from Ne.symm n04]
      have f1 : on (L.setIfInBounds i true) i1 = on L i1 := by rw [hset]; simp [show i ≠ i1 from Ne.symm n14]
      have f2 : on (L.setIfInBounds i true) i2 = on L i2 := by rw [hset]; simp [show i ≠ i2 from Ne.symm n24]
      have f3 : on (L.setIfInBounds i true) i3 = on L i3 := by rw [hset]; simp [show i ≠ i3 from Ne.symm n34]
      have f4 : on (L.setIfInBounds i true) i = true := by rw [hset]; simp
      have d : on L i2 = true ∧ on L i3 = true := by rcases b2 with e | e; rw [f4] at e; cases e; rw [f2, f3] at e; exact e
      exact stepA (fun v' a' w' q => by rw [f0, f1, f2, f3, f4]; exact q) (by rintro j (rfl | rfl | rfl | rfl | rfl); exact m40; exact m41; exact m42; exact m43; exact m44) (Ch.step4 hA hsA d.1 d.2 ho)
    · have f0 : on (L.setIfInBounds i true) i = true := by rw [hset]; simp
      have f1 : on (L.setIfInBounds i true) j1 = on L j1 := by rw [hset]; simp [show i ≠ j1 from k01]
      have f2 : on (L.setIfInBounds i true) j2 = on L j2 := by rw [hset]; simp [show i ≠ j2 from k02]
      have f3 : on (L.setIfInBounds i true) j3 = on L j3 := by rw [hset]; simp [show i ≠ j3 from k03]
      have f4 : on (L.setIfInBounds i true) j4 = on L j4 := by rw [hset]; simp [show i ≠ j4 from k04]
      exact stepB (fun v' a' w' q => by rw [f0, f1, f2, f3, f4]; exact q) (by rintro j (rfl | rfl | rfl | rfl | rfl); exact Ne.symm m00; exact Ne.symm m10; exact Ne.symm m20; exact Ne.symm m30; exact Ne.symm m40) (Ch.step0 hB hag hsB (B2 (B0 ho)))
    · have f0 : on (L.setIfInBounds i true) j0 = on L j0 := by rw [hset]; simp [show i ≠ j0 from Ne.symm k01]
      have f1 : on (L.setIfInBounds i true) i = true := by rw [hset]; simp
      have f2 : on (L.setIfInBounds i true) j2 = on L j2 := by rw [hset]; simp [show i ≠ j2 from k12]
      have f3 : on (L.setIfInBounds i true) j3 = on L j3 := by rw [hset]; simp [show i ≠ j3 from k13]
      have f4 : on (L.setIfInBounds i true) j4 = on L j4 := by rw [hset]; simp [show i ≠ j4 from k14]
      exact stepB (fun v' a' w' q => by rw [f0, f1, f2, f3, f4]; exact q) (by rintro j (rfl | rfl | rfl | rfl | rfl); exact Ne.symm m01; exact Ne.symm m11; exact Ne.symm m21; exact Ne.symm m31; exact Ne.symm m41) (Ch.step1 hB hag hm.size hsB (B1 ho))
    · have f0 : on (L.setIfInBounds i true) j0 = on L j0 := by rw [hset]; simp [show i ≠ j0 from Ne.symm k02]
      have f1 : on (L.setIfInBounds i true) j1 = on L j1 := by rw [hset]; simp [show i ≠ j1 from Ne.symm k12]
      have f2 : on (L.setIfInBounds i true) i = true := by rw [hset]; simp
      have f3 : on (L.setIfInBounds i true) j3 = on L j3 := by rw [hset]; simp [show i ≠ j3 from k23]
      have f4 : on (L.setIfInBounds i true) j4 = on L j4 := by rw [hset]; simp [show i ≠ j4 from k24]
      have d : on L j0 = true ∧ on L j1 = true := by rcases b3 with e | e; rw [f2] at e; cases e; rw [f0, f1] at e; exact e
      exact stepB (fun v' a' w' q => by rw [f0, f1, f2, f3, f4]; exact q) (by rintro j (rfl | rfl | rfl | rfl | rfl); exact Ne.symm m02; exact Ne.symm m12; exact Ne.symm m22; exact Ne.symm m32; exact Ne.symm m42) (Ch.step2 hB hag hm.size (Nat.le_trans hbB hm.size) hsB d.1 d.2 ho (B2 ho))
    · have f0 : on (L.setIfInBounds i true) j0 = on L j0 := by rw [hset]; simp [show i ≠ j0 from Ne.symm k03]
      have f1 : on (L.setIfInBounds i true) j1 = on L j1 := by rw [hset]; simp [show i ≠ j1 from Ne.symm k13]
      have f2 : on (L.setIfInBounds i true) j2 = on L j2 := by rw [hset]; simp [show i ≠ j2 from Ne.symm k23]
      have f3 : on (L.setIfInBounds i true) i = true := by rw [hset]; simp
      have f4 : on (L.setIfInBounds i true) j4 = on L j4 := by rw [hset]; simp [show i ≠ j4 from k34]
      exact stepB (fun v' a' w' q => by rw [f0, f1, f2, f3, f4]; exact q) (by rintro j (rfl | rfl | rfl | rfl | rfl); exact Ne.symm m03; exact Ne.symm m13; exact Ne.symm m23; exact Ne.symm m33; exact Ne.symm m43) (Ch.step3 hB hag hsB)
    · have f0 : on (L.setIfInBounds i true) j0 = on L j0 := by rw [hset]; simp [show i ≠ j0 from Ne.symm k04]
      have f1 : on (L.setIfInBounds i true) j1 = on L j1 := by rw [hset]; simp [show i ≠ j1 from Ne.symm k14]
      have f2 : on (L.setIfInBounds i true) j2 = on L j2 := by rw [hset]; simp [show i ≠ j2 from Ne.symm k24]
      have f3 : on (L.setIfInBounds i true) j3 = on L j3 := by rw [hset]; simp [show i ≠ j3 from Ne.symm k34]
      have f4 : on (L.setIfInBounds i true) i = true := by rw [hset]; simp
      have d : on L j2 = true ∧ on L j3 = true := by rcases b4 with e | e; rw [f4] at e; cases e; rw [f2, f3] at e; exact e
      exact stepB (fun v' a' w' q => by rw [f0, f1, f2, f3, f4]; exact q) (by rintro j (rfl | rfl | rfl | rfl | rfl); exact Ne.symm m04; exact Ne.symm m14; exact Ne.symm m24; exact Ne.symm m34; exact Ne.symm m44) (Ch.step4 hB hsB d.1 d.2 ho)
  · rintro L a w hL ⟨hag, hm, vA, vB, hsA, hsB, hab⟩
    simp only [List.all_cons, List.all_nil, Bool.and_eq_true, and_true] at hL
    obtain ⟨x0, x1, x2, x3, x4, y0, y1, y2, y3, y4⟩ := hL
    have hbA := hsA.blk
    have hrA := hsA.row
    have hbB := hsB.blk
    have hrB := hsB.row
    rw [if_pos x4] at hbA
    rw [if_pos x2] at hrA
    rw [if_pos y4] at hbB
    rw [if_pos y2] at hrB
    exact hQ a w vA vB hag hm hbA hrA hbB hrB hab
  · rw [hz i0 (by simp), hz i1 (by simp), hz i2 (by simp), hz i3 (by simp), hz i4 (by simp), hz j0 (by simp), hz j1 (by simp), hz j2 (by simp), hz j3 (by simp), hz j4 (by simp)]
    exact ⟨Agr.refl _ _, Mod.refl _ _, _, _, ⟨h0, ite_f ⟨rfl, h1⟩, (fun e => nomatch e), (fun e => nomatch e), (fun e => nomatch e), (fun e => nomatch e)⟩, ⟨h2, ite_f ⟨rfl, h3⟩, (fun e => nomatch e), (fun e => nomatch e), (fun e => nomatch e), (fun e => nomatch e)⟩, hap⟩
end Go.Proofs.YtenoaonlngndpaaDoor

/- The four operations of a chain, each shown from what the frame holds. Over whatever program. -/
namespace Go.Proofs.YtenoaonlngndpaaDoor
set_option linter.unusedVariables false
open Go.RowKit

theorem cells_one {v : Value} (h : v.oneCell' = true) : v.cells = #[v] := by cases v <;> first | rfl | cases h
theorem run_storeAt_one {P : Program} {w : World} {ty : TypeId} {i : TypeInfo} {a : Addr} {v u : Value} (hi : P.info? ty = some i) (hs : i.size = 1) (hv : v.oneCell' = true) (hc : w.cell? a = some u) (hf : w.frozen? a = false) :
    (Instr.storeAt ty (.pointer (some a)) v).run P w = .ok () (w.setCell a v) := by
  have ha : a.add 0 = a := by simp [Addr.add]
  simp [Instr.storeAt, Instr.sureAddr, storeVar, sizeOf, typeInfo, hi, hs, cells_one hv, storeCells, ha, run_store _ _ _ _ _ hv, hc, hf]
theorem run_loadAt_slice {P : Program} {w : World} {ty e : TypeId} {a : Addr} {v : Value} (hu : P.underlying ty = some (.slice e)) (hc : w.cell? a = some v) :
    (Instr.loadAt ty (.pointer (some a))).run P w = .ok v w := by
  simp [Instr.loadAt, Instr.sureAddr, loadVar, isAgg, underlying, hu, run_load, hc]
theorem run_loadAt_row {P : Program} (w : World) (g : Nat) (t ty : TypeId) (cs : Array Value) (fr : Nat × Nat) (d : TypeDesc) (hg : w.heap[g]? = some (.cells cs t fr))
    (hu : P.underlying ty = some d) (hd : (match d with | .struct _ | .array _ _ => true | _ => false) = true) (hi : (P.info? ty).map (·.size) = some cs.size) :
    (Instr.loadAt ty (.pointer (some ⟨g, 0, none⟩))).run P w = .ok (.agg cs) w := by
  simp [Instr.loadAt, Instr.sureAddr, run_loadVar_row w g t ty cs fr d hg hu hd hi]
section
variable {P : Program} {ops : Array Oper} {D : List Nat} {a0 : Act}
theorem mk_load {i0 d1 t b k : Nat} {T e : TypeId} {v : Value} (o : Oper) (ho : ops[i0]? = some o) (hg : o.guard = none) (hd : o.dst = some d1) (hop : o.op = .load T (.tmp t)) (ht : t ∉ D) (hp : a0.eval (.tmp t) = .pointer (some ⟨b, k, none⟩)) (hu : P.underlying T = some (.slice e)) :
    ∃ o, ops[i0]? = some o ∧ o.guard = none ∧ o.dst = some d1 ∧ ∀ a w, Agr D a0 a → w.cell? ⟨b, k, none⟩ = some v → (execOp a.eval o).run P w = .ok (.value v) w := by
  refine ⟨o, ho, hg, hd, fun a w hag hc => ?_⟩
  have h := (hag.eval ht).trans hp
  unfold execOp
  simp only [hop, h, Sem.run_bind, run_loadAt_slice hu hc, Result.andThen_ok, Sem.run_pure]
theorem mk_make {i1 d2 t : Nat} {T e : TypeId} {i : TypeInfo} {z v : Value} {new : Array Value} (o : Oper) (ho : ops[i1]? = some o) (hg : o.guard = none) (hd : o.dst = some d2) (hop : o.op = .buildSlice T 1 #[(0, .tmp t)]) (ht : t ∉ D) (hp : a0.eval (.tmp t) = v)
    (hu : P.underlying T = some (.slice e)) (hi : P.info? e = some i) (hz : i.zero = some z) {sz : Nat} (hs : i.size = sz) (h1 : ¬ 1 * sz > 2 ^ 24) (hn : ¬ 1 * sz = 0) (hf : Instr.fill (fun k => some (k * sz, sz)) ((Array.range (1 * sz)).map (z.cells[· % z.cells.size]!)) [(0, v)] = some new) :
    ∃ o, ops[i1]? = some o ∧ o.guard = none ∧ o.dst = some d2 ∧ ∀ a w, Agr D a0 a → (execOp a.eval o).run P w = .ok (.value (.slice (some ⟨w.heap.size, 0, none⟩) 1 1)) (w.alloc (.cells new e)) := by
  subst hs
  refine ⟨o, ho, hg, hd, fun a w hag => ?_⟩
  have h := (hag.eval ht).trans hp
  unfold execOp
  simp only [hop, List.map_toArray, List.map_cons, List.map_nil, h, Sem.run_bind, run_buildSlice w T e 1 #[(0, v)] new i z hu hi hz h1 hn hf, Result.andThen_ok, Sem.run_pure]
theorem mk_fa {i3 d4 t b k s : Nat} {j : Nat} (o : Oper) (ho : ops[i3]? = some o) (hg : o.guard = none) (hd : o.dst = some d4) (hop : o.op = .fieldAddr s (.tmp t) j) (ht : t ∉ D) (hp : a0.eval (.tmp t) = .pointer (some ⟨b, 0, none⟩)) (h : ∀ w, (Instr.fieldAt s (.pointer (some ⟨b, 0, none⟩)) j).run P w = .ok (.pointer (some ⟨b, k, none⟩)) w) :
    ∃ o, ops[i3]? = some o ∧ o.guard = none ∧ o.dst = some d4 ∧ ∀ a w, Agr D a0 a → (execOp a.eval o).run P w = .ok (.value (.pointer (some ⟨b, k, none⟩))) w := by
  refine ⟨o, ho, hg, hd, fun a w hag => ?_⟩
  have hh := (hag.eval ht).trans hp
  unfold execOp
  simp only [hop, hh, h, Sem.run_bind, Result.andThen_ok, Sem.run_pure]
theorem mk_put {i4 d3 d4 b k : Nat} {T : TypeId} {i : TypeInfo} (o : Oper) (ho : ops[i4]? = some o) (hg : o.guard = none) (hd : o.dst = none) (hop : o.op = .store T (.tmp d4) (.tmp d3)) (hi : P.info? T = some i) (hs : i.size = 1) :
    ∃ o, ops[i4]? = some o ∧ o.guard = none ∧ o.dst = none ∧ ∀ (a : Act) (w : World) (v u : Value), a.eval (.tmp d4) = .pointer (some ⟨b, k, none⟩) → a.eval (.tmp d3) = v → v.oneCell' = true → w.cell? ⟨b, k, none⟩ = some u → w.frozen? ⟨b, k, none⟩ = false → (execOp a.eval o).run P w = .ok .skip (w.setCell ⟨b, k, none⟩ v) := by
  refine ⟨o, ho, hg, hd, fun a w v u h hv h1 hc hf => ?_⟩
  unfold execOp
  simp only [hop, h, hv, Sem.run_bind, run_storeAt_one hi hs h1 hc hf, Result.andThen_ok, Sem.run_pure]
theorem range_one : Array.range (1 * 1) = #[0] := by rfl
theorem fill_one {z v : Value} (h : v.oneCell' = true) : Instr.fill (fun k => some (k * 1, 1)) ((Array.range (1 * 1)).map (z.cells[· % z.cells.size]!)) [(0, v)] = some #[v] := by
  have hc : v.cells = #[v] := by cases v <;> first | rfl | cases h
  rw [range_one]
  simp [Instr.fill, hc]
theorem fill_five {z v a b c d e : Value} (h : v.cells = #[a, b, c, d, e]) : Instr.fill (fun k => some (k * 5, 5)) ((Array.range (1 * 5)).map (z.cells[· % z.cells.size]!)) [(0, v)] = some #[a, b, c, d, e] := by
  have hr : Array.range (1 * 5) = #[0, 1, 2, 3, 4] := by rfl
  rw [hr]
  simp [Instr.fill, h]
/-! Pure operations, yielding whatever the world. -/
theorem y_field {S : World → Prop} {a : Act} {s t b k : Nat} {j : Nat} (o : Oper) (hg : o.guard = none) (hop : o.op = .fieldAddr s (.tmp t) j) (ht : a.eval (.tmp t) = .pointer (some ⟨b, 0, none⟩)) (h : ∀ w, (Instr.fieldAt s (.pointer (some ⟨b, 0, none⟩)) j).run P w = .ok (.pointer (some ⟨b, k, none⟩)) w) :
    YieldsIf P ops S o (.pointer (some ⟨b, k, none⟩)) a := by
  refine Or.inl ⟨by simp [Region.wanted, hg], fun w _ => ?_⟩
  unfold execOp
  simp only [hop, ht, Sem.run_bind, h, Result.andThen_ok, Sem.run_pure]
theorem y_move {S : World → Prop} {a : Act} {t : Nat} {v : Value} (o : Oper) (hg : o.guard = none) (hop : o.op = .move (.tmp t)) (ht : a.eval (.tmp t) = v) : YieldsIf P ops S o v a := by
  refine Or.inl ⟨by simp [Region.wanted, hg], fun w _ => ?_⟩
  unfold execOp
  simp only [hop, ht, Sem.run_pure]
theorem y_load {S : World → Prop} {a : Act} {t b : Nat} {T : TypeId} {cs : Array Value} (o : Oper) (hg : o.guard = none) (hop : o.op = .load T (.tmp t)) (ht : a.eval (.tmp t) = .pointer (some ⟨b, 0, none⟩)) (h : ∀ w, S w → (Instr.loadAt T (.pointer (some ⟨b, 0, none⟩))).run P w = .ok (.agg cs) w) : YieldsIf P ops S o (.agg cs) a := by
  refine Or.inl ⟨by simp [Region.wanted, hg], fun w hw => ?_⟩
  unfold execOp
  simp only [hop, ht, Sem.run_bind, h w hw, Result.andThen_ok, Sem.run_pure]
theorem y_conv {S : World → Prop} {a : Act} {t : Nat} {s d : TypeId} {v u : Value} (o : Oper) (hg : o.guard = none) (hop : o.op = .convert s d (.tmp t)) (ht : a.eval (.tmp t) = u) (h : ∀ w, (convert s d u).run P w = .ok v w) : YieldsIf P ops S o v a := by
  refine Or.inl ⟨by simp [Region.wanted, hg], fun w _ => ?_⟩
  unfold execOp
  simp only [hop, ht, Sem.run_bind, h, Result.andThen_ok, Sem.run_pure]
theorem wpAnyH_takeD {Q : Exit → Act → World → Prop} {md : Region.Mode} {S : World → Prop} {i d : Nat} {oi : Oper} {v : Value} {fuel : Nat} {listed : Array Bool} {a : Act} {w : World} (hi : ops[i]? = some oi) (hd : oi.dst = some d)
    (hs : Region.noSelect ops = true) (hf : Region.free md ops listed i = true) (hr : (Region.ready md ops listed).contains i = true)
    (hQ : ∀ c a w, Q (.panic c) (a.put (some d) v) w → Q (.panic c) a w) (hy : YieldsIf P ops S oi v a) (hS : S w)
    (h : wpAnyH P md ops Q S fuel (listed.setIfInBounds i true) (a.put (some d) v) w) : wpAnyH P md ops Q S (fuel + 1) listed a w :=
  wpAnyH_take hi hs hf hr (by rw [hd]; exact hQ) hy hS (by rw [hd]; exact h)
end
end Go.Proofs.YtenoaonlngndpaaDoor

/- A region that draws its order and holds one chain of load, slice literal, append, store. Over whatever program. -/
namespace Go.Proofs.YtenoaonlngndpaaDoor
set_option linter.unusedVariables false
open Go.RowKit

theorem grown_alloc_then {w w' : World} {o : Obj} {row : Option Nat} (h : (w.alloc o).grownBy w' row) : w.grownBy w' row :=
  ⟨h.os, h.tape, h.output, Nat.le_trans (by simp) h.size, fun k hk hne => (h.block k (by simp; omega) hne).trans (Below.heap_alloc w o k hk)⟩
theorem put_comm {a : Act} {d1 d2 : Nat} (h : d1 ≠ d2) (u v : Value) : (a.put (some d1) u).put (some d2) v = (a.put (some d2) v).put (some d1) u := by
  simp only [Act.put]
  rw [Array.setIfInBounds_comm _ _ h]
section
variable {P : Program} {ops : Array Oper} {Q : Exit → Act → World → Prop} {md : Region.Mode} {S : World → Prop}
def rd3 (md : Region.Mode) (ops : Array Oper) (L : Array Bool) (i0 i1 i2 : Nat) : Bool :=
  Region.ready md ops L == [i0, i1] && Region.ready md ops (L.setIfInBounds i0 true) == [i1] && Region.ready md ops (L.setIfInBounds i1 true) == [i0] && Region.ready md ops ((L.setIfInBounds i0 true).setIfInBounds i1 true) == [i2]
theorem wpAnyH_one {k i : Nat} {L : Array Bool} {a : Act} {w : World} (hr : Region.ready md ops L = [i]) (h : wpOp P ops Q i (fun a' w' => S w' ∧ wpAnyH P md ops Q S k (L.setIfInBounds i true) a' w') a w) : wpAnyH P md ops Q S (k + 1) L a w := by
  refine ⟨fun c => (by rw [hr] at c; cases c), fun j hj => ?_⟩
  rw [hr] at hj
  obtain rfl := List.mem_singleton.1 hj
  exact h
/-- The three operations: whichever of the first two comes first. -/
theorem load_make_append {D : List Nat} {a0 : Act} {w0 : World} {L : Array Bool} {k i0 i1 i2 d1 d2 d3 b f B sz n : Nat} {T e : TypeId} {v : Value} {xs : List Value} {new : Array Value}
    (hrd : rd3 md ops L i0 i1 i2 = true) (hne : i0 ≠ i1) (hd : d1 ≠ d2) (hs1 : d1 < a0.tmps.size) (hs2 : d2 < a0.tmps.size) (hD1 : d1 ∈ D) (hD2 : d2 ∈ D)
    (hload : ∃ o, ops[i0]? = some o ∧ o.guard = none ∧ o.dst = some d1 ∧ ∀ a w, Agr D a0 a → w.cell? ⟨b, f, none⟩ = some v → (execOp a.eval o).run P w = .ok (.value v) w)
    (hmake : ∃ o, ops[i1]? = some o ∧ o.guard = none ∧ o.dst = some d2 ∧ ∀ a w, Agr D a0 a → (execOp a.eval o).run P w = .ok (.value (.slice (some ⟨w.heap.size, 0, none⟩) 1 1)) (w.alloc (.cells new e)))
    (happ : ∃ o t i z by_, ops[i2]? = some o ∧ o.guard = none ∧ o.dst = some d3 ∧ o.op = .call { callee := .builtin .append, args := #[.tmp d1, .tmp d2], argTypes := #[t, t] } ∧ P.underlying t = some (.slice e) ∧ P.info? e = some i ∧ i.zero = some z ∧ i.size = sz ∧ i.bytes = by_ ∧ z.cells.size = sz ∧ (n + 1) * by_ ≤ 140737488355328)
    (hsz : 0 < sz) (hnew : new.size = sz) (h1 : ∀ u ∈ new.toList, u.oneCell' = true) (h63 : n + 1 ≤ maxLen) (hB : B ≤ w0.heap.size)
    (hc : w0.cell? ⟨b, f, none⟩ = some v) (hown : Sl B w0 e sz v n xs) (hS : ∀ w', w0.grownBy w' v.ownBlock → S w')
    (h : ∀ v' w', Sl B w' e sz v' (n + 1) (xs ++ new.toList) → w0.grownBy w' v.ownBlock → (v'.ownBlock = v.ownBlock ∨ v'.ownBlock = some (w0.heap.size + 1)) →
      wpAnyH P md ops Q S k (((L.setIfInBounds i0 true).setIfInBounds i1 true).setIfInBounds i2 true) (((a0.put (some d1) v).put (some d2) (.slice (some ⟨w0.heap.size, 0, none⟩) 1 1)).put (some d3) v') w') :
    wpAnyH P md ops Q S (k + 1 + 1 + 1) L a0 w0 := by
  obtain ⟨o0, q0, g0, e0, r0⟩ := hload
  obtain ⟨o1, q1, g1, e1, r1⟩ := hmake
  obtain ⟨o2, t, ti, z, by_, q2, g2, e2, hop, ht, hti, hz, hszi, hby, hzs, hbytes⟩ := happ
  simp only [rd3, Bool.and_eq_true, beq_iff_eq] at hrd
  obtain ⟨⟨⟨k0, k1⟩, k2⟩, k3⟩ := hrd
  have sl_def : ∃ s, s = Value.slice (some ⟨w0.heap.size, 0, none⟩) 1 1 := ⟨_, rfl⟩
  have ag1 : ∀ u, Agr D a0 (a0.put (some d1) u) := fun u => (Agr.refl D a0).put (fun t ht => by injection ht with ht; exact ht ▸ hD1) u
  have ag2 : ∀ u, Agr D a0 (a0.put (some d2) u) := fun u => (Agr.refl D a0).put (fun t ht => by injection ht with ht; exact ht ▸ hD2) u
  have gA : w0.grownBy (w0.alloc (.cells new e)) v.ownBlock := World.grownBy_alloc _ _ _
  have hcA : (w0.alloc (.cells new e)).cell? ⟨b, f, none⟩ = some v := (World.cell?_alloc_lt _ _ _ (World.block_lt_of_cell? w0 _ hc)).trans hc
  have last : wpAnyH P md ops Q S (k + 1) ((L.setIfInBounds i0 true).setIfInBounds i1 true) ((a0.put (some d1) v).put (some d2) (.slice (some ⟨w0.heap.size, 0, none⟩) 1 1)) (w0.alloc (.cells new e)) := by
    refine wpAnyH_one k3 (wpOp_of_wp q2 g2 ?_)
    have v1 : ((a0.put (some d1) v).put (some d2) (.slice (some ⟨w0.heap.size, 0, none⟩) 1 1)).eval (.tmp d1) = v := by
      rw [put_other (fun c => hd (by injection c with c; exact c.symm))]; exact put_same hs1 _
    have v2 : ((a0.put (some d1) v).put (some d2) (.slice (some ⟨w0.heap.size, 0, none⟩) 1 1)).eval (.tmp d2) = .slice (some ⟨w0.heap.size, 0, none⟩) 1 1 := put_same (by simpa [Act.put] using hs2) _
    obtain ⟨v', w', hrun, p1, p2, p3⟩ := run_append_sl (P := P) t o2.type ti z by_ ht hti hz hszi hby hzs hsz (hown.alloc (.cells new e)) ⟨w0.heap.size, 0, none⟩ 1 1 new.toList (by simpa using hnew) (World.news_of_block (Blk.new w0 new e)) h1 h63 hbytes (by simp; omega)
    have hg' := grown_alloc_then p2
    unfold Oper.wp execOp
    simp only [hop, resolve, invoke, builtin, Sem.run_bind, Sem.run_pure, Result.andThen_ok, List.map_toArray, List.map_cons, List.map_nil, v1, v2, hrun]
    change _ ∧ wpAnyH _ _ _ _ _ _ _ (Act.put _ o2.dst _) _
    rw [e2]
    refine ⟨hS _ hg', h v' w' p1 hg' ?_⟩
    rcases p3 with p3 | p3
    · exact .inl p3
    · exact .inr (by simpa using p3)
  refine ⟨fun c => (by rw [k0] at c; cases c), fun j hj => ?_⟩
  rw [k0] at hj
  rcases List.mem_cons.1 hj with rfl | hj
  · refine wpOp_val q0 g0 (r0 a0 w0 (Agr.refl _ _) hc) ⟨hS _ ⟨rfl, rfl, rfl, Nat.le_refl _, fun _ _ _ => rfl⟩, ?_⟩
    rw [e0]
    refine wpAnyH_one k1 (wpOp_val q1 g1 (r1 _ w0 (ag1 v)) ⟨hS _ gA, ?_⟩)
    rw [e1]
    exact last
  · obtain rfl := List.mem_singleton.1 hj
    refine wpOp_val q1 g1 (r1 a0 w0 (Agr.refl _ _)) ⟨hS _ gA, ?_⟩
    rw [e1]
    refine wpAnyH_one k2 (wpOp_val q0 g0 (r0 _ (w0.alloc (.cells new e)) (ag2 _) hcA) ⟨hS _ gA, ?_⟩)
    rw [e0, Array.setIfInBounds_comm _ _ (Ne.symm hne), put_comm (Ne.symm hd)]
    exact last
theorem y_nil {a : Act} {t : Nat} {ad : Addr} (o : Oper) (hg : o.guard = none) (hop : o.op = .nilCheck (.tmp t)) (ht : a.eval (.tmp t) = .pointer (some ad)) : YieldsIf P ops S o (.pointer (some ad)) a := by
  refine Or.inl ⟨by simp [Region.wanted, hg], fun w _ => ?_⟩
  unfold execOp
  simp [hop, ht]
theorem y_build {a : Act} {T : TypeId} {parts : Array (Nat × Operand)} {cells : Array Value} (o : Oper) (hg : o.guard = none) (hop : o.op = .build T parts) (hf : P.built T (parts.map fun (i, x) => (i, a.eval x)).toList = some cells) : YieldsIf P ops S o (.agg cells) a := by
  refine Or.inl ⟨by simp [Region.wanted, hg], fun w _ => ?_⟩
  unfold execOp
  simp only [hop, Sem.run_bind, run_build w T _ cells hf, Result.andThen_ok, Sem.run_pure]
theorem wpOp_of_wp2 {i : Nat} {o : Oper} {a : Act} {w : World} {K : Act → World → Prop} (ho : ops[i]? = some o) (hg : Region.wanted o (yielded ops a.tmps) = true) (h : o.wp P a w K Q) : wpOp P ops Q i K a w := by
  unfold wpOp
  simp only [ho]
  rw [if_pos hg]
  exact .inl h
theorem wpOp_val2 {i : Nat} {o : Oper} {a : Act} {w w' : World} {v : Value} {K : Act → World → Prop} (ho : ops[i]? = some o) (hg : Region.wanted o (yielded ops a.tmps) = true) (hr : (execOp a.eval o).run P w = .ok (.value v) w') (h : K (a.put o.dst v) w') : wpOp P ops Q i K a w :=
  wpOp_of_wp2 ho hg (by unfold Oper.wp; rw [hr]; exact h)
/-- The store at the end. -/
theorem wpAnyH_store {i t u b f : Nat} {T : TypeId} {ti : TypeInfo} {v v0 : Value} {L : Array Bool} {a : Act} {w : World} (o : Oper) (ho : ops[i]? = some o) (hg : o.guard = none) (hd : o.dst = none) (hop : o.op = .store T (.tmp t) (.tmp u)) (hi : P.info? T = some ti) (hs : ti.size = 1)
    (hr : Region.ready md ops L = [i]) (hr2 : Region.ready md ops (L.setIfInBounds i true) = []) (ht : a.eval (.tmp t) = .pointer (some ⟨b, f, none⟩)) (hu : a.eval (.tmp u) = v) (h1 : v.oneCell' = true) (hc : w.cell? ⟨b, f, none⟩ = some v0) (hf : w.frozen? ⟨b, f, none⟩ = false)
    (hS : S (w.setCell ⟨b, f, none⟩ v)) (h : Q .normal a (w.setCell ⟨b, f, none⟩ v)) : wpAnyH P md ops Q S 1 L a w := by
  refine wpAnyH_one hr (wpOp_skip ho hg (w' := w.setCell ⟨b, f, none⟩ v) ?_ ⟨hS, hr2, ?_⟩)
  · unfold execOp
    simp only [hop, ht, hu, Sem.run_bind, run_storeAt_one hi hs h1 hc hf, Result.andThen_ok, Sem.run_pure]
  · rw [hd]; exact h
end
end Go.Proofs.YtenoaonlngndpaaDoor

/- slices.Clone of strings and of rules towards peers; advert.Advert's clone; advert.Base's New, Of, Learn. -/
namespace Go.Proofs.YtenoaonlngndpaaDoor
set_option linter.unusedVariables false
set_option linter.unusedSimpArgs false
open Go.RowKit Go.Maps Pl Go.Shelf

theorem info_s : (Tryd.prog.info? 9).map (fun i => (i.zero, i.size, i.bytes)) = some (some (.string ⟨#[]⟩), 1, 16) := by kernel_rfl
theorem info_lk : (Tryd.prog.info? 55).map (fun i => (i.zero, i.size, i.bytes)) = some (some (.agg #[.int .i64 0, .string ⟨#[]⟩, .int .i64 0, .int .i64 0, .string ⟨#[]⟩, .string ⟨#[]⟩]), 6, 72) := by kernel_rfl
set_option maxHeartbeats 1000000 in
set_option maxRecDepth 100000 in
theorem sclone_any (B : Nat) (v : Value) (n : Nat) (xs : List Value) (w : World) (h : Sl B w 9 1 v n xs) (hn : n ≤ 1048576) (h1 : ∀ u ∈ xs, u.oneCell' = true) :
    Calls Tryd.prog 51 #[v] w fun e w' => ∃ v', e = .returned v' ∧ w'.ownsRow w.heap.size 9 1 v' n xs ∧ Below w.heap.size w w' := by
  obtain ⟨i1, hi1, hi1z, hi1s, hi1b⟩ := info_parts info_s
  rcases h.2 with ⟨rfl, rfl⟩ | ⟨g, o, cap, cur, rfl, hb, hg, h4, h5, h6, h7⟩
  · obtain rfl : xs = [] := List.eq_nil_of_length_eq_zero (by simpa using h.1)
    have hnil : ∀ W, (binOp .eql 44 (.slice none 0 0) (.slice none 0 0)).run Tryd.prog W = .ok (.bool true) W := fun W => Lib.run_eql_slice_nil_nil W _ _ Tryd.underlying44
    clear h
    go_enter Tryd.func51, Tryd.ntmps51
    go_wp2
    go_ret
    exact ⟨_, rfl, World.ownsRow_nil _ _ _ _, Below.refl _ _⟩
  · have H := Lib.hid h
    have H1 := Lib.hid h1
    have HO := Lib.hid (World.ownsRow_made (base := w.heap.size) (e := 9) (size := 1) w #[] 0 (Nat.le_refl _) (by decide) (by simp))
    have HL := Lib.hid h.1
    have hnil : ∀ W, (binOp .eql 44 (.slice (some ⟨g, o, none⟩) n cap) (.slice none 0 0)).run Tryd.prog W = .ok (.bool false) W := fun W => Lib.run_eql_slice_some_nil W _ _ _ Tryd.underlying44
    have hcap : (n : Int) ≤ cap := by omega
    clear h h1 h7 hg
    go_enter Tryd.func51, Tryd.ntmps51
    go_wp2_with (at_builtin; refine wpList_append_own _ rfl _ _ 44 rfl w.heap.size 9 i1 _ 1 _ Tryd.underlying44 hi1 hi1z hi1s hi1b rfl (by decide) _ 0 [] rfl HO.out ⟨g, o, none⟩ n cap xs rfl HL.out ?x1 H1.out (by unfold maxLen; omega) (by omega) (by simp) ?x2)
    case x1 => exact fun j u hu => by rw [addr_add0]; exact (H.out.alloc _).cells j u hu
    intro v' w1 hown hgrow _
    have hbel : Below w.heap.size w w1 := Below.grown ((Below.refl _ _).alloc (Nat.le_refl _) _) hgrow (by simp) (fun k hk => by simp [Value.ownBlock] at hk; omega)
    have HO1 := Lib.hid hown
    have HB1 := Lib.hid hbel
    clear hown hgrow hbel
    go_wp2
    go_ret
    exact ⟨_, rfl, HO1.out, HB1.out⟩
set_option maxHeartbeats 1000000 in
set_option maxRecDepth 100000 in
theorem lclone_any (B : Nat) (v : Value) (n : Nat) (xs : List Value) (w : World) (h : Sl B w 55 6 v n xs) (hn : n ≤ 1048576) (h1 : ∀ u ∈ xs, u.oneCell' = true) :
    Calls Tryd.prog 52 #[v] w fun e w' => ∃ v', e = .returned v' ∧ w'.ownsRow w.heap.size 55 6 v' n xs ∧ Below w.heap.size w w' := by
  obtain ⟨i1, hi1, hi1z, hi1s, hi1b⟩ := info_parts info_lk
  rcases h.2 with ⟨rfl, rfl⟩ | ⟨g, o, cap, cur, rfl, hb, hg, h4, h5, h6, h7⟩
  · obtain rfl : xs = [] := List.eq_nil_of_length_eq_zero (by simpa using h.1)
    have hnil : ∀ W, (binOp .eql 45 (.slice none 0 0) (.slice none 0 0)).run Tryd.prog W = .ok (.bool true) W := fun W => Lib.run_eql_slice_nil_nil W _ _ Tryd.underlying45
    clear h
    go_enter Tryd.func52, Tryd.ntmps52
    go_wp2
    go_ret
    exact ⟨_, rfl, World.ownsRow_nil _ _ _ _, Below.refl _ _⟩
  · have H := Lib.hid h
    have H1 := Lib.hid h1
    have HO := Lib.hid (World.ownsRow_made (base := w.heap.size) (e := 55) (size := 6) w #[] 0 (Nat.le_refl _) (by decide) (by simp))
    have HL := Lib.hid h.1
    have hnil : ∀ W, (binOp .eql 45 (.slice (some ⟨g, o, none⟩) n cap) (.slice none 0 0)).run Tryd.prog W = .ok (.bool false) W := fun W => Lib.run_eql_slice_some_nil W _ _ _ Tryd.underlying45
    have hcap : (n : Int) ≤ cap := by omega
    clear h h1 h7 hg
    go_enter Tryd.func52, Tryd.ntmps52
    go_wp2_with (at_builtin; refine wpList_append_own _ rfl _ _ 45 rfl w.heap.size 55 i1 _ 6 _ Tryd.underlying45 hi1 hi1z hi1s hi1b rfl (by decide) _ 0 [] rfl HO.out ⟨g, o, none⟩ n cap xs rfl HL.out ?x1 H1.out (by unfold maxLen; omega) (by omega) (by simp) ?x2)
    case x1 => exact fun j u hu => by rw [addr_add0]; exact (H.out.alloc _).cells j u hu
    intro v' w1 hown hgrow _
    have hbel : Below w.heap.size w w1 := Below.grown ((Below.refl _ _).alloc (Nat.le_refl _) _) hgrow (by simp) (fun k hk => by simp [Value.ownBlock] at hk; omega)
    have HO1 := Lib.hid hown
    have HB1 := Lib.hid hbel
    clear hown hgrow hbel
    go_wp2
    go_ret
    exact ⟨_, rfl, HO1.out, HB1.out⟩
theorem ad_size : (Tryd.prog.info? 47).map (·.size) = some 4 := by kernel_rfl
set_option maxHeartbeats 2000000 in
set_option maxRecDepth 100000 in
theorem aclone_any (B : Nat) (a : Ad) (vf vl : Value) (w : World) (h : AdAt B w 55 a vf vl) (hf : a.fits) :
    Calls Tryd.prog 32 #[.agg (adA a vf vl)] w fun e w' => ∃ vf' vl', e = .returned (.agg (adA a vf' vl')) ∧ AdAt w.heap.size w' 55 a vf' vl' ∧ Below w.heap.size w w' := by
  have hb1 := (blk_at w (adA a vf vl) 47 rfl).alloc (.cells #[.int .i64 0, .int .i64 0, .slice none 0 0, .slice none 0 0] 47)
  have hb2 := blk_at (w.alloc (.cells (adA a vf vl) 47)) #[.int .i64 0, .int .i64 0, .slice none 0 0, .slice none 0 0] 47 (b := w.heap.size + 1) (by simp)
  have hbl := ((Below.refl w.heap.size w).alloc (Nat.le_refl _) (.cells (adA a vf vl) 47)).alloc (by simp) (.cells #[.int .i64 0, .int .i64 0, .slice none 0 0, .slice none 0 0] 47)
  unfold adA at hb1 hb2 hbl ⊢
  obtain ⟨Y, hY⟩ : ∃ Y, (w.alloc (.cells #[.int .i64 a.owner, .int .i64 a.version, vf, vl] 47)).alloc (.cells #[.int .i64 0, .int .i64 0, .slice none 0 0, .slice none 0 0] 47) = Y := ⟨_, rfl⟩
  rw [hY] at hb1 hb2 hbl
  have HY := Lib.hid hY
  have B1 := Lib.hid hb1
  have B2 := Lib.hid hb2
  have BL := Lib.hid hbl
  have hz := hb2.lt
  have c2 := hb1.cell 2
  have c3 := hb1.cell 3
  simp only [List.getElem?_toArray, List.getElem?_cons_zero, List.getElem?_cons_succ] at c2 c3
  have CS := fun W (hW : Below Y.heap.size Y W) => Lib.hid (sclone_any B vf a.fs.length _ W ((h.fs.below hbl).below hW) hf.nf (flat_one strC strC_one a.fs))
  have CL := fun W (hW : Below Y.heap.size Y W) => Lib.hid (lclone_any B vl a.ls.length _ W ((h.ls.below hbl).below hW) hf.nl (flat_one lkC lkC_one a.ls))
  clear hY hb1 hb2 hbl h hf
  go_enter Tryd.func32, Tryd.ntmps32
  go_wp2_with (first | (rw [HY.out]) | (fail))
  have bd : Below Y.heap.size Y Y.drew := drewN_below Y 1
  have CS1 := CS Y.drew bd
  clear CS
  go_region_with (first
    | (go_at_call 51
       (with_reducible refine CS1.out.mono ?_)
       rintro e w2 ⟨v2, rfl, ho2, hb2⟩
       obtain ⟨a2, k2, rfl, -⟩ := (Sl.of_own ho2).form
       have HB2 := Lib.hid (bd.trans (Below.mono (B' := Y.heap.size) hb2 (Nat.le_refl _)))
       have HO2 := Lib.hid (Sl.of_own ho2)
       have B12 := Lib.hid (B1.out.of_below HB2.out)
       have e2 := B12.out.cell 2
       have e3 := B12.out.cell 3
       simp only [List.getElem?_toArray, List.getElem?_cons_zero, List.getElem?_cons_succ] at e2 e3
       clear ho2 hb2 CS1)
    | (go_at_call 52
       (with_reducible refine (CL _ HB2.out).out.mono ?_)
       rintro e w3 ⟨v3, rfl, ho3, hb3⟩
       obtain ⟨a3, k3, rfl, -⟩ := (Sl.of_own ho3).form
       have HB3 := Lib.hid (HB2.out.trans (hb3.mono HB2.out.size))
       have HO3 := Lib.hid ((Sl.of_own ho3).mono HB2.out.size)
       have HO23 := Lib.hid (HO2.out.below hb3)
       have B13 := Lib.hid (B1.out.of_below HB3.out)
       have e2 := B13.out.cell 2
       have e3 := B13.out.cell 3
       have f2 := B13.out.frozen 2
       have f3 := B13.out.frozen 3
       simp only [List.getElem?_toArray, List.getElem?_cons_zero, List.getElem?_cons_succ] at e2 e3
       clear ho3 hb3 CL)
    | (fail))
  all_goals
    have z1 := (B13.out.set 2 (.slice a2 a.fs.length k2)).set 3 (.slice a3 a.ls.length k3)
    have z2 := ((B2.out.of_below HB3.out).other (R' := w.heap.size) (by omega) 2 (.slice a2 a.fs.length k2)).other (R' := w.heap.size) (by omega) 3 (.slice a3 a.ls.length k3)
    have z3 := (HO23.out.set (R := w.heap.size) 2 (.slice a2 a.fs.length k2) (HO23.out.ne B13.out (by decide))).set (R := w.heap.size) 3 (.slice a3 a.ls.length k3) (HO23.out.ne B13.out (by decide))
    have z4 := (HO3.out.set (R := w.heap.size) 2 (.slice a2 a.fs.length k2) (HO3.out.ne B13.out (by decide))).set (R := w.heap.size) 3 (.slice a3 a.ls.length k3) (HO3.out.ne B13.out (by decide))
    have z5 := ((BL.out.trans (HB3.out.mono BL.out.size)).setCell (p := ⟨w.heap.size, 2, none⟩) (Nat.le_refl _) (.slice a2 a.fs.length k2)).setCell (p := ⟨w.heap.size, 3, none⟩) (Nat.le_refl _) (.slice a3 a.ls.length k3)
    obtain ⟨Z, hZ⟩ : ∃ Z, (w3.setCell ⟨w.heap.size, 2, none⟩ (.slice a2 a.fs.length k2)).setCell ⟨w.heap.size, 3, none⟩ (.slice a3 a.ls.length k3) = Z := ⟨_, rfl⟩
    rw [hZ] at z1 z2 z3 z4 z5 ⊢
    simp only [List.setIfInBounds_toArray, List.set_cons_succ, List.set_cons_zero] at z1
    have Z1 := Lib.hid z1
    have Z2 := Lib.hid z2
    have Z3 := Lib.hid (z3.mono (Nat.le_trans BL.out.size (Nat.le_refl _)))
    have Z4 := Lib.hid (z4.mono BL.out.size)
    have Z5 := Lib.hid z5
    clear hZ z1 z2 z3 z4 z5 e2 e3 f2 f3 c2 c3
    go_wp2_with (first | (refine wpList_load_row rfl 47 (.tmp 1) rfl w.heap.size rfl 47 _ (0, 0) _ Z1.out Tryd.underlying47 rfl ad_size ?_) | (refine wpList_store_rowTo rfl 47 (.tmp 2) (.tmp 11) rfl rfl (w.heap.size + 1) (adA a (.slice a2 a.fs.length k2) (.slice a3 a.ls.length k3)) rfl rfl 47 _ Z2.out ad_size rfl (ad_one (T := 55) ⟨Z3.out, Z4.out⟩) ?_) | (fail))
    refine bodyPost_ret (v := .agg (adA a (.slice a2 a.fs.length k2) (.slice a3 a.ls.length k3))) (results_cell_row (p := 2) (ty := 47) (by kernel_rfl) _ _ (w.heap.size + 1) 47 _ (0, 0) _ rfl Z2.out.setRow Tryd.underlying47 rfl ad_size) rfl ⟨_, _, rfl, ⟨?_, ?_⟩, below_setRow Z5.out (by omega) _⟩
    · exact Z3.out.same fun k hk => Go.setRow_other _ _ _ _ (fun c => Z3.out.ne Z2.out (by decide) (c ▸ hk))
    · exact Z4.out.same fun k hk => Go.setRow_other _ _ _ _ (fun c => Z4.out.ne Z2.out (by decide) (c ▸ hk))
end Go.Proofs.YtenoaonlngndpaaDoor
