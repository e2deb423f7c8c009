/- Worlds in which named blocks alone have turned; a block known whole. Over whatever program. -/
import Derived.Below
import Derived.Lib.Builder
import Derived.Lib.Hide
import Derived.WalkKit
import Derived.Laws.AppendOwn
import Derived.Laws.Cells
import Derived.Deep.AppendLies
namespace Go.Proofs.Ytnclobnnnihpfaa
set_option linter.unusedVariables false
open Go.RowKit

/-- Of what was there, only blocks in S have turned. -/
structure Mod (S : Nat → Prop) (w w' : World) : Prop where
  os : w'.os = w.os
  tape : w'.tape = w.tape
  output : w'.output = w.output
  size : w.heap.size ≤ w'.heap.size
  block : ∀ k, k < w.heap.size → ¬ S k → w'.heap[k]? = w.heap[k]?
theorem Mod.refl (S : Nat → Prop) (w : World) : Mod S w w := ⟨rfl, rfl, rfl, Nat.le_refl _, fun _ _ _ => rfl⟩
theorem Mod.trans {S : Nat → Prop} {a b c : World} (h : Mod S a b) (k : Mod S b c) : Mod S a c :=
  ⟨k.os.trans h.os, k.tape.trans h.tape, k.output.trans h.output, Nat.le_trans h.size k.size, fun i hi hs => (k.block i (Nat.lt_of_lt_of_le hi h.size) hs).trans (h.block i hi hs)⟩
theorem Mod.weaken {S S' : Nat → Prop} {a b : World} (h : Mod S a b) (hs : ∀ k, k < a.heap.size → S k → S' k) : Mod S' a b :=
  ⟨h.os, h.tape, h.output, h.size, fun i hi hn => h.block i hi (fun c => hn (hs i hi c))⟩
/-- What turned later in blocks that are new counts for nothing. -/
theorem Mod.then {S S' : Nat → Prop} {a b c : World} (h : Mod S a b) (k : Mod S' b c) (hs : ∀ i, i < a.heap.size → S' i → S i) : Mod S a c :=
  ⟨k.os.trans h.os, k.tape.trans h.tape, k.output.trans h.output, Nat.le_trans h.size k.size, fun i hi hn => (k.block i (Nat.lt_of_lt_of_le hi h.size) (fun c => hn (hs i hi c))).trans (h.block i hi hn)⟩
theorem Mod.of_below {S : Nat → Prop} {a b : World} (h : Below a.heap.size a b) : Mod S a b := ⟨h.os, h.tape, h.output, h.size, fun i hi _ => h.block i hi⟩
theorem Mod.below {S : Nat → Prop} {a b : World} {B : Nat} (h : Mod S a b) (hB : B ≤ a.heap.size) (hs : ∀ k, S k → B ≤ k) : Below B a b := ⟨h.os, h.tape, h.output, h.size, fun i hi => h.block i (Nat.lt_of_lt_of_le hi hB) (fun c => Nat.not_lt.2 (hs i c) hi)⟩
theorem Mod.add {S : Nat → Prop} {a b c : World} (h : Mod S a b) (k : Below b.heap.size b c) : Mod S a c := h.trans (Mod.of_below k)
theorem Mod.drew {S : Nat → Prop} {a b : World} (h : Mod S a b) : Mod S a b.drew := h.trans ⟨rfl, rfl, rfl, Nat.le_refl _, fun _ _ _ => rfl⟩
theorem Mod.alloc {S : Nat → Prop} {a b : World} (h : Mod S a b) (o : Obj) : Mod S a (b.alloc o) := h.add ((Below.refl _ _).alloc (Nat.le_refl _) o)
theorem Mod.setCell {S : Nat → Prop} {a b : World} (h : Mod S a b) {p : Addr} (hp : S p.block ∨ a.heap.size ≤ p.block) (u : Value) : Mod S a (b.setCell p u) :=
  ⟨h.os, h.tape, h.output, by simpa [World.setCell] using h.size, fun i hi hn => (Below.heap_setCell _ _ _ _ (fun e => by subst e; rcases hp with c | c; exact hn c; omega)).trans (h.block i hi hn)⟩
theorem Mod.grown {S : Nat → Prop} {a b c : World} {row : Option Nat} (h : Mod S a b) (hg : b.grownBy c row) (hr : ∀ k, row = some k → S k ∨ a.heap.size ≤ k) : Mod S a c :=
  ⟨hg.os.trans h.os, hg.tape.trans h.tape, hg.output.trans h.output, Nat.le_trans h.size hg.size, fun i hi hn => (hg.block i (Nat.lt_of_lt_of_le hi h.size) (fun e => by rcases hr i e.symm with c | c; exact hn c; omega)).trans (h.block i hi hn)⟩
theorem Mod.cell {S : Nat → Prop} {w w' : World} (h : Mod S w w') {p : Addr} (hp : p.block < w.heap.size) (hs : ¬ S p.block) : w'.cell? p = w.cell? p := World.cell?_of_block (w := w) (h.block p.block hp hs)

/-- A block of cells, known whole. -/
def Blk (w : World) (R : Nat) (cs : Array Value) (T : TypeId) : Prop := w.heap[R]? = some (.cells cs T (0, 0))
theorem Blk.lt {w : World} {R : Nat} {cs : Array Value} {T : TypeId} (h : Blk w R cs T) : R < w.heap.size := by
  rcases Nat.lt_or_ge R w.heap.size with c | c
  · exact c
  · unfold Blk at h; simp [Array.getElem?_eq_none c] at h
theorem Blk.cell {w : World} {R : Nat} {cs : Array Value} {T : TypeId} (h : Blk w R cs T) (j : Nat) : w.cell? ⟨R, j, none⟩ = cs[j]? := Lib.cell_of_heap h j
theorem Blk.frozen {w : World} {R : Nat} {cs : Array Value} {T : TypeId} (h : Blk w R cs T) (j : Nat) : w.frozen? ⟨R, j, none⟩ = false := Lib.frozen_of_heap h j
theorem Blk.new (w : World) (cs : Array Value) (T : TypeId) : Blk (w.alloc (.cells cs T)) w.heap.size cs T := by
  unfold Blk
  show (w.heap.push (.cells cs T))[w.heap.size]? = _
  rw [Array.getElem?_push, if_pos rfl]
theorem Blk.of_below {w w' : World} {R : Nat} {cs : Array Value} {T : TypeId} (h : Blk w R cs T) (hb : Below w.heap.size w w') : Blk w' R cs T := (hb.block R h.lt).trans h
theorem Blk.of_below' {w w' : World} {R B : Nat} {cs : Array Value} {T : TypeId} (h : Blk w R cs T) (hb : Below B w w') (hB : R < B) : Blk w' R cs T := (hb.block R hB).trans h
theorem Blk.mod {S : Nat → Prop} {w w' : World} {R : Nat} {cs : Array Value} {T : TypeId} (h : Blk w R cs T) (hm : Mod S w w') (hs : ¬ S R) : Blk w' R cs T := (hm.block R h.lt hs).trans h
theorem Blk.drew {w : World} {R : Nat} {cs : Array Value} {T : TypeId} (h : Blk w R cs T) : Blk w.drew R cs T := h
theorem Blk.alloc {w : World} {R : Nat} {cs : Array Value} {T : TypeId} (h : Blk w R cs T) (o : Obj) : Blk (w.alloc o) R cs T := h.of_below ((Below.refl _ _).alloc (Nat.le_refl _) o)
theorem Blk.set {w : World} {R : Nat} {cs : Array Value} {T : TypeId} (h : Blk w R cs T) (i : Nat) (v : Value) : Blk (w.setCell ⟨R, i, none⟩ v) R (cs.setIfInBounds i v) T := by
  unfold Blk at h ⊢
  simp only [World.setCell, Array.getElem?_modify]
  rw [h]
  simp
theorem Blk.other {w : World} {R R' : Nat} {cs : Array Value} {T : TypeId} (h : Blk w R cs T) (hn : R ≠ R') (i : Nat) (v : Value) : Blk (w.setCell ⟨R', i, none⟩ v) R cs T :=
  (Below.heap_setCell _ _ _ _ hn).trans h
theorem Blk.grown {w w' : World} {R : Nat} {cs : Array Value} {T : TypeId} {row : Option Nat} (h : Blk w R cs T) (hg : w.grownBy w' row) (hr : row ≠ some R) : Blk w' R cs T := (hg.block R h.lt (fun e => hr e.symm)).trans h
/-- What a call owns stays owned where its own row has not turned. -/
theorem own_mod {S : Nat → Prop} {w w' : World} {base n size : Nat} {e : TypeId} {v : Value} {xs : List Value} (h : w.ownsRow base e size v n xs) (hm : Mod S w w') (hs : ∀ g, v.ownBlock = some g → ¬ S g) : w'.ownsRow base e size v n xs := by
  refine ⟨h.1, ?_⟩
  rcases h.2 with h0 | ⟨g, cap, cur, rfl, hg, hh, hrest⟩
  · exact .inl h0
  · exact .inr ⟨g, cap, cur, rfl, hg, (hm.block g (h.lt g rfl).2 (hs g rfl)).trans hh, hrest⟩
/-- .. nor its block one of another type. -/
theorem own_ne {w : World} {B : Nat} {e T : TypeId} {v : Value} {n size : Nat} {xs : List Value} {b : Nat} {cs : Array Value} (hown : w.ownsRow B e size v n xs) (hb : Blk w b cs T) (hTe : T ≠ e) : v.ownBlock ≠ some b := by
  rcases hown.2 with ⟨rfl, _⟩ | ⟨g, cap, cur, rfl, _, hg, _⟩
  · simp [Value.ownBlock]
  · intro hc
    simp only [Value.ownBlock, Option.some.injEq] at hc
    subst hc
    unfold Blk at hb
    rw [hb] at hg
    injection hg with hg
    injection hg with _ h2 _
    exact hTe h2
/-- A block that is read whole. -/
theorem load_blk {P : Program} {w : World} {R : Nat} {cs : Array Value} {t : TypeId} (h : Blk w R cs t) (n : Nat) (hn : cs.size = n) : (loadCellsFrom ⟨R, 0, none⟩ 0 n #[]).run P w = .ok cs w := by
  subst hn
  have := run_loadCells_list (P := P) w ⟨R, 0, none⟩ cs.toList (World.news_of_block h)
  simpa [loadCells] using this
/-- 'xs = append(xs, u)': one element whose cells lie in a block of their own. -/
theorem wpList_pushB {P : Program} {w : World} {ops : Array Oper} {rest : List Oper} {o : Oper} {a : Act} {Q : Exit → Act → World → Prop} (s x : Operand) (t e : TypeId) (i : TypeInfo) (z : Value) (size bytes C : Nat) (cs : Array Value)
    (hgd : o.guard = none) (ho : o.op = .call { callee := .builtin .append, args := #[s, x], argTypes := #[t, t] })
    (ht : P.underlying t = some (.slice e)) (hi : P.info? e = some i) (hz : i.zero = some z) (hsize : i.size = size) (hby : i.bytes = bytes) (hzs : z.cells.size = size) (hsz : 0 < size) (hcl : cs.size = size) (h1 : ∀ u ∈ cs.toList, u.oneCell' = true)
    (B : Nat) (v : Value) (n : Nat) (xs : List Value) (hs : a.eval s = v) (hx : a.eval x = .slice (some ⟨C, 0, none⟩) 1 1)
    (hown : w.ownsRow B e size v n xs) (hb : Blk w C cs e) (hB : B ≤ w.heap.size) (h63 : n + 1 ≤ maxLen) (hbytes : (n + 1) * bytes ≤ 140737488355328)
    (h : ∀ v' w', w'.ownsRow B e size v' (n + 1) (xs ++ cs.toList) → w.grownBy w' v.ownBlock → wpList P ops Q rest (a.put o.dst v') w') :
    wpList P ops Q (o :: rest) a w :=
  wpList_append_own w hgd s x t ho B e i z size bytes ht hi hz hsize hby hzs hsz v n xs hs hown ⟨C, 0, none⟩ 1 1 cs.toList hx (by simpa using hcl) (World.news_of_block hb) h1 h63 hbytes hB (fun v' w' h2 h3 _ => h v' w' h2 h3)
end Go.Proofs.Ytnclobnnnihpfaa
