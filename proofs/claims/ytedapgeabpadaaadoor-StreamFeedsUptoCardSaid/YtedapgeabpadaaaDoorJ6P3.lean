/- Parts of the proof, joined: Rs, Mod, TabsMod, Gw0, Wr, Wr2, Kind, PropW0, PropF, PutV, Allow. -/
import Derived.Test.YtedapgeabpadaaaDoorJ6P2
import Derived.Below
import Derived.Lib.Builder
import Derived.Lib.Hide
import Derived.WalkKit
import Derived.Laws.AppendOwn
import Derived.Laws.Cells
import Derived.Deep.AppendLies
import Derived.Test.YtedapgeabpadaaaDoorJ6P1
import Derived.Deep.RegionHeld3
import Derived.Shelf.Strings.BuilderX
import Derived.Lib.Strings
import Derived.Lib.Slices
import Derived.Lib.Walk
import Derived.Lib.AppendStr
import Derived.Lib.UnsafeStr
import Derived.Lib.MakeNoZero
import Derived.Laws.Externs
import Derived.Laws.IdiomCopy
import Derived.Laws.BitsLemmas
import Derived.Test.YtedapgeabpadaaaDoorProg
import Derived.Test.YtedapgeabpadaaaDoorShelf
import Derived.Test.YtedapgeabpadaaaDoorRows
import Derived.WalkLawsBesides
import Derived.WalkSpells
import Derived.Handy
import Derived.Shelf.Abstract
namespace Go.Proofs.YtedapgeabpadaaaDoor
set_option linter.unusedVariables false
open Go.RowKit Pl Go.PlainAid

/-- What is read, and where it ends; or a code. -/
abbrev RR (α : Type) := Except Int (α × Int)
def bindR {α β : Type} (r : RR α) (k : α → Int → RR β) : RR β := match r with
  | .error c => .error c
  | .ok (v, a) => k v a
def rNum (s : ByteArray) (k a : Int) : RR Int := if (getF s a k).2.2 = 0 then .ok ((getF s a k).1, (getF s a k).2.1) else .error 129
def rText (s : ByteArray) (a : Int) : RR ByteArray := if (tget s a).2.2 = 0 then .ok ((tget s a).1, (tget s a).2.1) else .error 129
def rData (s : ByteArray) (a : Int) : RR ByteArray := if (getD s a).2.2 = 0 then .ok ((getD s a).1, (getD s a).2.1) else .error 129
def rId (s : ByteArray) (a : Int) : RR Int := bindR (rNum s 2 a) fun n a => if n = 0 then .error 130 else .ok (n, a)
def rProps (k : Int) (s : ByteArray) (a : Int) : RR (List Pp) :=
  if (getP s a).2.2 = 242 then .error 129 else if (getP s a).2.2 ≠ 0 then .error (getP s a).2.2 else if okAll k (getP s a).1 = false then .error 130 else .ok ((getP s a).1, (getP s a).2.1)
def sbOf (f : ByteArray) (n : Int) : Sb := ⟨f, n % 4, decide (n / 4 % 2 = 1), decide (n / 8 % 2 = 1), n / 16 % 4⟩
def rSub (s : ByteArray) (a : Int) : RR Sb := bindR (rText s a) fun f a => bindR (rNum s 1 a) fun n a =>
  if ¬ (n % 4 < 3 ∧ n < 64) then .error 129 else if n / 16 % 4 = 3 then .error 130 else .ok (sbOf f n, a)
def badFl (f : Int) : Prop := ¬ (f % 2 = 0 ∧ f / 8 % 4 < 3 ∧ (f / 4 % 2 = 1 ∨ (f / 8 % 4 = 0 ∧ f / 32 % 2 = 0)))
instance (f : Int) : Decidable (badFl f) := by unfold badFl; infer_instance
def cSet (p : Pk) (f : Int) : Pk := { p with clean := decide (f / 2 % 2 = 1), hasWill := decide (f / 4 % 2 = 1), hasPass := decide (f / 64 % 2 = 1), hasUser := decide (f / 128 % 2 = 1), wq := f / 8 % 4, wr := decide (f / 32 % 2 = 1) }
def rPass (s : ByteArray) (p : Pk) (a : Int) : RR Pk := if p.hasPass = true then bindR (rData s a) fun d a => .ok ({ p with pass := d }, a) else .ok (p, a)
def rUser (s : ByteArray) (p : Pk) (a : Int) : RR Pk := if p.hasUser = true then bindR (rText s a) fun t a => rPass s { p with user := t } a else rPass s p a
def rWill (s : ByteArray) (p : Pk) (a : Int) : RR Pk := if p.hasWill = true then bindR (rProps 0 s a) fun l a => bindR (rText s a) fun t a => bindR (rData s a) fun d a => rUser s { p with wps := l, wt := t, wp := d } a else rUser s p a
def rKeep (s : ByteArray) (p : Pk) (a : Int) : RR Pk := bindR (rNum s 2 a) fun n a => bindR (rProps 1 s a) fun l a => bindR (rText s a) fun t a => rWill s { p with keep := n, ps := l, client := t } a
def rConn (s : ByteArray) (p : Pk) (a : Int) : RR Pk := bindR (rText s a) fun t a => if t ≠ name5 then .error 129 else
  bindR (rNum s 1 a) fun v a => if v ≠ 5 then .error 132 else bindR (rNum s 1 a) fun f a => if badFl f then .error 129 else rKeep s (cSet p f) a
def rConnack (s : ByteArray) (p : Pk) (a : Int) : RR Pk := bindR (rNum s 1 a) fun n a => if ¬ n < 2 then .error 129 else bindR (rNum s 1 a) fun c a => bindR (rProps 2 s a) fun l a => .ok ({ p with session := decide (n = 1), code := c, ps := l }, a)
def rPayl (s : ByteArray) (p : Pk) (a : Int) : RR Pk := bindR (rProps 3 s a) fun l a => .ok ({ p with ps := l, payload := s.extract a.toNat s.size }, s.size)
def rPub (s : ByteArray) (p : Pk) (a : Int) : RR Pk := bindR (rText s a) fun t a => if 0 < p.q then bindR (rId s a) fun n a => rPayl s { p with topic := t, id := n } a else rPayl s { p with topic := t } a
def rEndP (s : ByteArray) (p : Pk) (a : Int) : RR Pk := if a < s.size then bindR (rProps p.kind s a) fun l a => .ok ({ p with ps := l }, a) else .ok (p, a)
def rEnd (s : ByteArray) (p : Pk) (a : Int) : RR Pk := if a < s.size then bindR (rNum s 1 a) fun c a => rEndP s { p with code := c } a else rEndP s p a
def rAck (s : ByteArray) (p : Pk) (a : Int) : RR Pk := bindR (rId s a) fun n a => rEnd s { p with id := n } a
/-- One item of a list. -/
def rItem (s : ByteArray) (p : Pk) (a : Int) : RR Pk :=
  if p.kind = 8 then bindR (rSub s a) fun x a => .ok ({ p with subs := p.subs ++ [x] }, a)
  else if p.kind = 10 then bindR (rText s a) fun x a => .ok ({ p with filters := p.filters ++ [x] }, a)
  else bindR (rNum s 1 a) fun x a => .ok ({ p with codes := p.codes ++ [x] }, a)
/-- f items more may stand there. -/
def rItems (s : ByteArray) : Nat → Pk → Int → RR Pk
  | 0, p, a => if a < s.size then .error 149 else .ok (p, a)
  | f + 1, p, a => if a < s.size then bindR (rItem s p a) fun p a => rItems s f p a else .ok (p, a)
def rLists (s : ByteArray) (p : Pk) (a : Int) : RR Pk := bindR (rId s a) fun n a => bindR (rProps p.kind s a) fun l a => if a < s.size then rItems s 64 { p with id := n, ps := l } a else .error 130
def rKind (s : ByteArray) (p : Pk) (a : Int) : RR Pk :=
  if p.kind = 1 then rConn s p a else if p.kind = 2 then rConnack s p a else if p.kind = 3 then rPub s p a
  else if p.kind = 4 ∨ p.kind = 5 ∨ p.kind = 6 ∨ p.kind = 7 then rAck s p a
  else if p.kind = 14 ∨ p.kind = 15 then rEnd s p a
  else if p.kind = 8 ∨ p.kind = 9 ∨ p.kind = 10 ∨ p.kind = 11 then rLists s p a else .ok (p, a)
def rBody (s : ByteArray) (p : Pk) (a : Int) : RR Pk := bindR (rKind s p a) fun p a => if a < s.size then .error 129 else .ok (p, a)
def zPk : Pk := ⟨0, false, false, 0, 0, ⟨#[]⟩, ⟨#[]⟩, 0, [], [], ⟨#[]⟩, false, 0, false, ⟨#[]⟩, ⟨#[]⟩, 0, false, [], false, false, ⟨#[]⟩, ⟨#[]⟩, false, [], []⟩
/-- What a head byte gives. -/
def hdO (b : Int) : Option Pk :=
  if b / 16 = 0 then none
  else if b / 16 = 3 then (if b / 2 % 4 < 3 ∧ (b / 8 % 2 = 0 ∨ 0 < b / 2 % 4) then some { zPk with kind := 3, dup := decide (b / 8 % 2 = 1), q := b / 2 % 4, ret := decide (b % 2 = 1) } else none)
  else if b % 16 = kFlags (b / 16) then some { zPk with kind := b / 16 } else none
def pkGet (s : ByteArray) : Pk × Int :=
  if s.size = 0 then (zPk, 242) else match hdO (bt s 0) with
  | none => (zPk, 129)
  | some p =>
    if (getV s 1).2.2 ≠ 0 then (zPk, (getV s 1).2.2) else if 65536 < (getV s 1).1 then (zPk, 149)
    else if (s.size : Int) - (getV s 1).2.1 < (getV s 1).1 then (zPk, 242) else if (s.size : Int) - (getV s 1).2.1 ≠ (getV s 1).1 then (zPk, 129)
    else match rBody (s.extract (getV s 1).2.1.toNat s.size) p 0 with
    | .error c => (zPk, c)
    | .ok (q, _) => (q, 0)
theorem getF_at {s : ByteArray} {a k : Int} (h : (getF s a k).2.2 = 0) : 0 ≤ a ∧ a ≤ (getF s a k).2.1 ∧ (getF s a k).2.1 ≤ s.size ∧ (getF s a k).2.1 = a + k ∧ Wide k := by
  unfold getF at h ⊢
  split at h
  · simp at h
  · rename_i h1
    split at h
    · simp at h
    · rename_i h2
      have hw : Wide k := Classical.byContradiction fun c => h1 (.inl c)
      have h3 : 0 ≤ a := Int.not_lt.1 fun c => h1 (.inr (.inl c))
      have hk : 0 < k := by unfold Wide at hw; omega
      rw [if_neg h1, if_neg h2]
      simp only
      exact ⟨h3, by omega, by omega, trivial, hw⟩
theorem getD_at {s : ByteArray} {a : Int} (h : (getD s a).2.2 = 0) : 0 ≤ a ∧ a ≤ (getD s a).2.1 ∧ (getD s a).2.1 ≤ s.size := by
  rcases getF_two s a with hf | hf | ⟨b, m, rfl, hf, hm, hb⟩
  · unfold getD at h; rw [hf] at h; simp at h
  · unfold getD at h; rw [hf] at h; simp at h
  · unfold getD at h ⊢
    rw [hf] at h ⊢
    simp only [ne_eq, not_true_eq_false, if_false] at h ⊢
    split at h
    · simp at h
    · rename_i h2
      rw [if_neg h2]
      simp only
      omega
theorem tget_at {s : ByteArray} {a : Int} (h : (tget s a).2.2 = 0) : 0 ≤ a ∧ a ≤ (tget s a).2.1 ∧ (tget s a).2.1 ≤ s.size := by
  unfold tget at h ⊢
  split at h
  · rename_i h1; exact absurd h h1
  · rename_i h1
    split at h
    · simp at h
    · rename_i h2
      rw [if_neg h1, if_neg h2]
      exact getD_at h
theorem rNum_at {s : ByteArray} {k a n b : Int} (h : rNum s k a = .ok (n, b)) : a ≤ b ∧ b ≤ s.size ∧ 0 ≤ a := by
  unfold rNum at h
  split at h
  · rename_i h1; cases h; have := getF_at h1; exact ⟨this.2.1, this.2.2.1, this.1⟩
  · cases h
theorem rText_at {s : ByteArray} {a b : Int} {t : ByteArray} (h : rText s a = .ok (t, b)) : a ≤ b ∧ b ≤ s.size ∧ 0 ≤ a := by
  unfold rText at h
  split at h
  · rename_i h1; cases h; have := tget_at h1; exact ⟨this.2.1, this.2.2, this.1⟩
  · cases h
theorem rData_at {s : ByteArray} {a b : Int} {t : ByteArray} (h : rData s a = .ok (t, b)) : a ≤ b ∧ b ≤ s.size ∧ 0 ≤ a := by
  unfold rData at h
  split at h
  · rename_i h1; cases h; have := getD_at h1; exact ⟨this.2.1, this.2.2, this.1⟩
  · cases h
end Go.Proofs.YtedapgeabpadaaaDoor

namespace Go.Proofs.YtedapgeabpadaaaDoor
set_option linter.unusedVariables false
open Go.RowKit

/-- Of what was there, only blocks in S have turned. -/
structure Mod (S : Nat → Prop) (w w' : World) : Prop where
  os : w'.os = w.os
  tape : w'.tape = w.tape
  output : w'.output = w.output
  size : w.heap.size ≤ w'.heap.size
  block : ∀ k, k < w.heap.size → ¬ S k → w'.heap[k]? = w.heap[k]?
theorem Mod.refl (S : Nat → Prop) (w : World) : Mod S w w := ⟨rfl, rfl, rfl, Nat.le_refl _, fun _ _ _ => rfl⟩
theorem Mod.trans {S : Nat → Prop} {a b c : World} (h : Mod S a b) (k : Mod S b c) : Mod S a c :=
  ⟨k.os.trans h.os, k.tape.trans h.tape, k.output.trans h.output, Nat.le_trans h.size k.size, fun i hi hs => (k.block i (Nat.lt_of_lt_of_le hi h.size) hs).trans (h.block i hi hs)⟩
theorem Mod.weaken {S S' : Nat → Prop} {a b : World} (h : Mod S a b) (hs : ∀ k, k < a.heap.size → S k → S' k) : Mod S' a b :=
  ⟨h.os, h.tape, h.output, h.size, fun i hi hn => h.block i hi (fun c => hn (hs i hi c))⟩
/-- What turned later in blocks that are new counts for nothing. -/
theorem Mod.then {S S' : Nat → Prop} {a b c : World} (h : Mod S a b) (k : Mod S' b c) (hs : ∀ i, i < a.heap.size → S' i → S i) : Mod S a c :=
  ⟨k.os.trans h.os, k.tape.trans h.tape, k.output.trans h.output, Nat.le_trans h.size k.size, fun i hi hn => (k.block i (Nat.lt_of_lt_of_le hi h.size) (fun c => hn (hs i hi c))).trans (h.block i hi hn)⟩
theorem Mod.of_below {S : Nat → Prop} {a b : World} (h : Below a.heap.size a b) : Mod S a b := ⟨h.os, h.tape, h.output, h.size, fun i hi _ => h.block i hi⟩
theorem Mod.below {S : Nat → Prop} {a b : World} {B : Nat} (h : Mod S a b) (hB : B ≤ a.heap.size) (hs : ∀ k, S k → B ≤ k) : Below B a b := ⟨h.os, h.tape, h.output, h.size, fun i hi => h.block i (Nat.lt_of_lt_of_le hi hB) (fun c => Nat.not_lt.2 (hs i c) hi)⟩
theorem Mod.add {S : Nat → Prop} {a b c : World} (h : Mod S a b) (k : Below b.heap.size b c) : Mod S a c := h.trans (Mod.of_below k)
theorem Mod.drew {S : Nat → Prop} {a b : World} (h : Mod S a b) : Mod S a b.drew := h.trans ⟨rfl, rfl, rfl, Nat.le_refl _, fun _ _ _ => rfl⟩
theorem Mod.alloc {S : Nat → Prop} {a b : World} (h : Mod S a b) (o : Obj) : Mod S a (b.alloc o) := h.add ((Below.refl _ _).alloc (Nat.le_refl _) o)
theorem Mod.setCell {S : Nat → Prop} {a b : World} (h : Mod S a b) {p : Addr} (hp : S p.block ∨ a.heap.size ≤ p.block) (u : Value) : Mod S a (b.setCell p u) :=
  ⟨h.os, h.tape, h.output, by simpa [World.setCell] using h.size, fun i hi hn => (Below.heap_setCell _ _ _ _ (fun e => by subst e; rcases hp with c | c; exact hn c; omega)).trans (h.block i hi hn)⟩
theorem Mod.grown {S : Nat → Prop} {a b c : World} {row : Option Nat} (h : Mod S a b) (hg : b.grownBy c row) (hr : ∀ k, row = some k → S k ∨ a.heap.size ≤ k) : Mod S a c :=
  ⟨hg.os.trans h.os, hg.tape.trans h.tape, hg.output.trans h.output, Nat.le_trans h.size hg.size, fun i hi hn => (hg.block i (Nat.lt_of_lt_of_le hi h.size) (fun e => by rcases hr i e.symm with c | c; exact hn c; omega)).trans (h.block i hi hn)⟩
theorem Mod.cell {S : Nat → Prop} {w w' : World} (h : Mod S w w') {p : Addr} (hp : p.block < w.heap.size) (hs : ¬ S p.block) : w'.cell? p = w.cell? p := World.cell?_of_block (w := w) (h.block p.block hp hs)

/-- A block of cells, known whole. -/
def Blk (w : World) (R : Nat) (cs : Array Value) (T : TypeId) : Prop := w.heap[R]? = some (.cells cs T (0, 0))
theorem Blk.lt {w : World} {R : Nat} {cs : Array Value} {T : TypeId} (h : Blk w R cs T) : R < w.heap.size := by
  rcases Nat.lt_or_ge R w.heap.size with c | c
  · exact c
  · unfold Blk at h; simp [Array.getElem?_eq_none c] at h
theorem Blk.cell {w : World} {R : Nat} {cs : Array Value} {T : TypeId} (h : Blk w R cs T) (j : Nat) : w.cell? ⟨R, j, none⟩ = cs[j]? := Lib.cell_of_heap h j
theorem Blk.frozen {w : World} {R : Nat} {cs : Array Value} {T : TypeId} (h : Blk w R cs T) (j : Nat) : w.frozen? ⟨R, j, none⟩ = false := Lib.frozen_of_heap h j
theorem Blk.new (w : World) (cs : Array Value) (T : TypeId) : Blk (w.alloc (.cells cs T)) w.heap.size cs T := by
  unfold Blk
  show (w.heap.push (.cells cs T))[w.heap.size]? = _
  rw [Array.getElem?_push, if_pos rfl]
theorem Blk.of_below {w w' : World} {R : Nat} {cs : Array Value} {T : TypeId} (h : Blk w R cs T) (hb : Below w.heap.size w w') : Blk w' R cs T := (hb.block R h.lt).trans h
theorem Blk.mod {S : Nat → Prop} {w w' : World} {R : Nat} {cs : Array Value} {T : TypeId} (h : Blk w R cs T) (hm : Mod S w w') (hs : ¬ S R) : Blk w' R cs T := (hm.block R h.lt hs).trans h
theorem Blk.drew {w : World} {R : Nat} {cs : Array Value} {T : TypeId} (h : Blk w R cs T) : Blk w.drew R cs T := h
theorem Blk.alloc {w : World} {R : Nat} {cs : Array Value} {T : TypeId} (h : Blk w R cs T) (o : Obj) : Blk (w.alloc o) R cs T := h.of_below ((Below.refl _ _).alloc (Nat.le_refl _) o)
theorem Blk.set {w : World} {R : Nat} {cs : Array Value} {T : TypeId} (h : Blk w R cs T) (i : Nat) (v : Value) : Blk (w.setCell ⟨R, i, none⟩ v) R (cs.setIfInBounds i v) T := by
  unfold Blk at h ⊢
  simp only [World.setCell, Array.getElem?_modify]
  rw [h]
  simp
theorem Blk.other {w : World} {R R' : Nat} {cs : Array Value} {T : TypeId} (h : Blk w R cs T) (hn : R ≠ R') (i : Nat) (v : Value) : Blk (w.setCell ⟨R', i, none⟩ v) R cs T :=
  (Below.heap_setCell _ _ _ _ hn).trans h
theorem Blk.grown {w w' : World} {R : Nat} {cs : Array Value} {T : TypeId} {row : Option Nat} (h : Blk w R cs T) (hg : w.grownBy w' row) (hr : row ≠ some R) : Blk w' R cs T := (hg.block R h.lt (fun e => hr e.symm)).trans h
/-- What a call owns stays owned where its own row has not turned. -/
theorem own_mod {S : Nat → Prop} {w w' : World} {base n size : Nat} {e : TypeId} {v : Value} {xs : List Value} (h : w.ownsRow base e size v n xs) (hm : Mod S w w') (hs : ∀ g, v.ownBlock = some g → ¬ S g) : w'.ownsRow base e size v n xs := by
  refine ⟨h.1, ?_⟩
  rcases h.2 with h0 | ⟨g, cap, cur, rfl, hg, hh, hrest⟩
  · exact .inl h0
  · exact .inr ⟨g, cap, cur, rfl, hg, (hm.block g (h.lt g rfl).2 (hs g rfl)).trans hh, hrest⟩
/-- .. nor its block one of another type. -/
theorem own_ne {w : World} {B : Nat} {e T : TypeId} {v : Value} {n size : Nat} {xs : List Value} {b : Nat} {cs : Array Value} (hown : w.ownsRow B e size v n xs) (hb : Blk w b cs T) (hTe : T ≠ e) : v.ownBlock ≠ some b := by
  rcases hown.2 with ⟨rfl, _⟩ | ⟨g, cap, cur, rfl, _, hg, _⟩
  · simp [Value.ownBlock]
  · intro hc
    simp only [Value.ownBlock, Option.some.injEq] at hc
    subst hc
    unfold Blk at hb
    rw [hb] at hg
    injection hg with hg
    injection hg with _ h2 _
    exact hTe h2
/-- 'xs = append(xs, u)': one element whose cells lie in a block of their own. -/
theorem wpList_pushB {P : Program} {w : World} {ops : Array Oper} {rest : List Oper} {o : Oper} {a : Act} {Q : Exit → Act → World → Prop} (s x : Operand) (t e : TypeId) (i : TypeInfo) (z : Value) (size bytes C : Nat) (cs : Array Value)
    (hgd : o.guard = none) (ho : o.op = .call { callee := .builtin .append, args := #[s, x], argTypes := #[t, t] })
    (ht : P.underlying t = some (.slice e)) (hi : P.info? e = some i) (hz : i.zero = some z) (hsize : i.size = size) (hby : i.bytes = bytes) (hzs : z.cells.size = size) (hsz : 0 < size) (hcl : cs.size = size) (h1 : ∀ u ∈ cs.toList, u.oneCell' = true)
    (B : Nat) (v : Value) (n : Nat) (xs : List Value) (hs : a.eval s = v) (hx : a.eval x = .slice (some ⟨C, 0, none⟩) 1 1)
    (hown : w.ownsRow B e size v n xs) (hb : Blk w C cs e) (hB : B ≤ w.heap.size) (h63 : n + 1 ≤ maxLen) (hbytes : (n + 1) * bytes ≤ 140737488355328)
    (h : ∀ v' w', w'.ownsRow B e size v' (n + 1) (xs ++ cs.toList) → w.grownBy w' v.ownBlock → wpList P ops Q rest (a.put o.dst v') w') :
    wpList P ops Q (o :: rest) a w :=
  wpList_append_own w hgd s x t ho B e i z size bytes ht hi hz hsize hby hzs hsz v n xs hs hown ⟨C, 0, none⟩ 1 1 cs.toList hx (by simpa using hcl) (World.news_of_block hb) h1 h63 hbytes hB (fun v' w' h2 h3 _ => h v' w' h2 h3)
end Go.Proofs.YtedapgeabpadaaaDoor

namespace Go.Proofs.YtedapgeabpadaaaDoor
set_option linter.unusedVariables false
open Go.RowKit

/-- A block that is none of the tables. -/
def NoTab (R : Nat) : Prop := R ≠ 0 ∧ R ≠ 1
theorem cell_lt {w : World} {a : Addr} {v : Value} (hc : w.cell? a = some v) : a.block < w.heap.size := by
  rcases Nat.lt_or_ge a.block w.heap.size with h' | h'
  · exact h'
  · simp [World.cell?, Array.getElem?_eq_none h'] at hc
theorem tabs_lt {w : World} (h : Tabs w) : 0 < w.heap.size ∧ 1 < w.heap.size := ⟨cell_lt (h.1 0 (by decide)), cell_lt (h.2 0 (by decide)).1⟩
theorem NoTab.new {w : World} {R : Nat} (h : Tabs w) (hR : w.heap.size ≤ R) : NoTab R := by
  have := tabs_lt h
  exact ⟨by omega, by omega⟩
theorem tabs_keep {w w' : World} {S : Nat → Prop} (h : Tabs w) (m : Mod S w w') (hs : ∀ R, S R → NoTab R) : Tabs w' :=
  ⟨fun c hc => (m.cell (cell_lt (h.1 c hc)) (fun c => (hs _ c).1 rfl)).trans (h.1 c hc), fun i hi => ⟨(m.cell (cell_lt (h.2 i hi).1) (fun c => (hs _ c).2 rfl)).trans (h.2 i hi).1, (m.cell (cell_lt (h.2 i hi).2) (fun c => (hs _ c).2 rfl)).trans (h.2 i hi).2⟩⟩
theorem tabs_mod {w w' : World} {R : Nat} (h : Tabs w) (m : Mod (· = R) w w') (hs : NoTab R) : Tabs w' := tabs_keep h m (fun _ e => e ▸ hs)
theorem tabs_set {w : World} (h : Tabs w) {p : Addr} (hs : NoTab p.block) (v : Value) : Tabs (w.setCell p v) := tabs_mod (R := p.block) h ((Mod.refl (· = p.block) w).setCell (.inl rfl) v) hs
end Go.Proofs.YtedapgeabpadaaaDoor

set_option linter.unusedVariables false
namespace Go.Proofs.YtedapgeabpadaaaDoor
open Go.RowKit Pl

def flt_ (c : Int) : List PanicEntry := [{ v := .iface 104 (.int .u8 c), recovered := false }]
/-- A reader's cells. -/
def rdrA (s : ByteArray) (a : Int) : Array Value := #[.string s, .int .i64 a]
/-- What a reader's method leaves. -/
def RrPost {α : Type} (R : Nat) (s : ByteArray) (V : α → Value → World → Prop) (w : World) (r : RR α) (e : Ending) (w' : World) : Prop :=
  match r with
  | .ok (v, a) => ∃ u, e = .returned u ∧ V v u w' ∧ Blk w' R (rdrA s a) 110 ∧ Mod (· = R) w w'
  | .error c => e = .panicked (flt_ c) ∧ Mod (· = R) w w'
theorem fail_any (c : Int) (w : World) : Calls Tryd.prog 49 #[.int .u8 c] w fun e w' => e = .panicked (flt_ c) ∧ w' = w := by
  go_enter Tryd.func49, Tryd.ntmps49
  go_wp2
  exact ⟨rfl, rfl, rfl⟩
theorem must_true (w : World) : Calls Tryd.prog 34 #[.bool true] w fun e w' => e = .returned (.tuple #[]) ∧ w' = w := by
  go_enter Tryd.func34, Tryd.ntmps34
  go_wp2
  go_end0
  exact ⟨rfl, rfl⟩
theorem must_false (w : World) : Calls Tryd.prog 34 #[.bool false] w fun e w' => e = .panicked (flt_ 129) ∧ w' = w := by
  go_enter Tryd.func34, Tryd.ntmps34
  go_wp2_with fail
  (with_reducible refine (fail_any _ _).mono ?_)
  rintro e w' ⟨rfl, rfl⟩
  exact ⟨rfl, rfl, rfl⟩
abbrev S2p (X : World) (R : Nat) (s : ByteArray) (a : Int) : Prop := X.cell? ⟨R, 0, none⟩ = some (.string s) ∧ X.cell? ⟨R, 1, none⟩ = some (.int .i64 a)
theorem s2p_blw {X Y : World} {R : Nat} {s : ByteArray} {a : Int} (h : S2p X R s a) (hR : R < X.heap.size) (hb : Below X.heap.size X Y) : S2p Y R s a :=
  ⟨(hb.cell (p := ⟨R, 0, none⟩) hR).trans h.1, (hb.cell (p := ⟨R, 1, none⟩) hR).trans h.2⟩
theorem left_any (R : Nat) (s : ByteArray) (a : Int) (w : World) (hR : Blk w R (rdrA s a) 110) :
    Calls Tryd.prog 57 #[.pointer (some ⟨R, 0, none⟩)] w fun e w' => e = .returned (.bool (decide (a < s.size))) ∧ Below w.heap.size w w' ∧ w'.heap = w.heap := by
  have h0 := hR.cell 0
  have h1 := hR.cell 1
  simp only [rdrA, List.getElem?_toArray, List.getElem?_cons_zero, List.getElem?_cons_succ] at h0 h1
  clear hR
  go_enter Tryd.func57, Tryd.ntmps57
  go_wp2_with fail
  go_quiet (fail)
  go_wp2
  go_ret
  exact ⟨rfl, ⟨rfl, rfl, rfl, Nat.le_refl _, fun _ _ => rfl⟩, rfl⟩
set_option maxHeartbeats 1000000 in
theorem rnum_any (R : Nat) (s : ByteArray) (a k : Int) (w : World) (hR : Blk w R (rdrA s a) 110) (hs : s.size ≤ 140737488351232) (h0 : 0 ≤ a) (h1 : a ≤ s.size) :
    Calls Tryd.prog 51 #[.pointer (some ⟨R, 0, none⟩), .int .i64 k] w (RrPost R s (fun n u _ => u = .int .i64 n) w (rNum s k a)) := by
  have c0 := hR.cell 0
  have c1 := hR.cell 1
  have f1 := hR.frozen 1
  have hl := hR.lt
  simp only [rdrA, List.getElem?_toArray, List.getElem?_cons_zero, List.getElem?_cons_succ] at c0 c1
  have hs0 : S2p w R s a := ⟨c0, c1⟩
  have hsd : S2p w.drew R s a := hs0
  have HB := Lib.hid (show Blk w.drew R (rdrA s a) 110 from hR)
  have CF := Lib.hid (getfixed_all s a k w.drew hs (by omega) (by omega))
  unfold rNum
  obtain ⟨⟨n, tu, c⟩, hg⟩ : ∃ g, getF s a k = g := ⟨_, rfl⟩
  rw [hg] at CF ⊢
  simp only at CF ⊢
  clear hg hR c0 c1 h0 h1 hs
  by_cases hc : c = 0
  · subst hc
    rw [if_pos rfl]
    go_enter Tryd.func51, Tryd.ntmps51
    go_wp2_with fail
    go_region_held3 (fun X => S2p X R s a) (first | (with_reducible assumption) | exact hs0 | exact hsd) (first | (go_at_call 79; refine CF.out.mono ?_; rintro e w1 ⟨rfl, rfl⟩) | (fail))
    all_goals
      obtain ⟨y0, y1⟩ := hsd
      have k1 := HB.out.frozen 1
      go_wp2_with (first | (go_at_call 34; (with_reducible refine (must_true _).mono ?_); rintro e w2 ⟨rfl, rfl⟩) | (fail))
      go_ret
      exact ⟨_, rfl, rfl, HB.out.set 1 _, ((Mod.refl (· = R) w).drew).setCell (.inl rfl) _⟩
  · have e0 : (c == 0) = false := by rw [beq_eq_false_iff_ne]; exact hc
    rw [if_neg hc]
    go_enter Tryd.func51, Tryd.ntmps51
    go_wp2_with fail
    go_region_held3 (fun X => S2p X R s a) (first | (with_reducible assumption) | exact hs0 | exact hsd) (first | (go_at_call 79; refine CF.out.mono ?_; rintro e w1 ⟨rfl, rfl⟩) | (fail))
    all_goals
      go_wp2_with (first | (go_at_call 34; (with_reducible refine (must_false _).mono ?_); rintro e w2 ⟨rfl, rfl⟩) | (fail))
      exact ⟨rfl, rfl, (Mod.refl (· = R) w).drew⟩
-- text, data (gen_gw0.py)
set_option maxHeartbeats 1000000 in
theorem rtext_any (R : Nat) (s : ByteArray) (a : Int) (w : World) (hR : Blk w R (rdrA s a) 110) (hs : s.size ≤ 140737488351232) (h0 : 0 ≤ a) (h1 : a ≤ s.size) (hT : Tabs w.drew) :
    Calls Tryd.prog 53 #[.pointer (some ⟨R, 0, none⟩)] w (RrPost R s (fun t u _ => u = .string t) w (rText s a)) := by
  have c0 := hR.cell 0
  have c1 := hR.cell 1
  have hl := hR.lt
  simp only [rdrA, List.getElem?_toArray, List.getElem?_cons_zero, List.getElem?_cons_succ] at c0 c1
  have hs0 : S2p w R s a := ⟨c0, c1⟩
  have hsd : S2p w.drew R s a := hs0
  have hld : R < w.drew.heap.size := hl
  have HB := Lib.hid (show Blk w.drew R (rdrA s a) 110 from hR)
  have CF := Lib.hid (tget_any s a w.drew hs (by omega) (by omega) hT)
  unfold rText
  obtain ⟨⟨n, tu, c⟩, hg⟩ : ∃ g, tget s a = g := ⟨_, rfl⟩
  rw [hg] at CF ⊢
  simp only at CF ⊢
  clear hg hR c0 c1 h0 h1 hs
  by_cases hc : c = 0
  · subst hc
    rw [if_pos rfl]
    go_enter Tryd.func53, Tryd.ntmps53
    go_wp2_with fail
    go_region_held3 (fun X => S2p X R s a) (first | (with_reducible assumption) | exact hs0 | exact hsd | exact y) (first | (go_at_call 82; refine CF.out.mono ?_; rintro e w1 ⟨rfl, b1⟩; have y : S2p w1 R s a := s2p_blw hsd hld b1) | (fail))
    all_goals
      obtain ⟨y0, y1⟩ := y
      have HB1 := Lib.hid (HB.out.of_below b1)
      have k1 := HB1.out.frozen 1
      have hm := Lib.hid (((Mod.refl (· = R) w).drew).add b1)
      clear b1
      go_wp2_with (first | (go_at_call 34; (with_reducible refine (must_true _).mono ?_); rintro e w2 ⟨rfl, rfl⟩) | (fail))
      go_ret
      exact ⟨_, rfl, rfl, HB1.out.set 1 _, hm.out.setCell (.inl rfl) _⟩
  · have e0 : (c == 0) = false := by rw [beq_eq_false_iff_ne]; exact hc
    rw [if_neg hc]
    go_enter Tryd.func53, Tryd.ntmps53
    go_wp2_with fail
    go_region_held3 (fun X => S2p X R s a) (first | (with_reducible assumption) | exact hs0 | exact hsd | exact y) (first | (go_at_call 82; refine CF.out.mono ?_; rintro e w1 ⟨rfl, b1⟩; have y : S2p w1 R s a := s2p_blw hsd hld b1) | (fail))
    all_goals
      have hm := Lib.hid (((Mod.refl (· = R) w).drew).add b1)
      clear b1
      go_wp2_with (first | (go_at_call 34; (with_reducible refine (must_false _).mono ?_); rintro e w2 ⟨rfl, rfl⟩) | (fail))
      exact ⟨rfl, rfl, hm.out⟩
set_option maxHeartbeats 1000000 in
theorem rdata_any (R : Nat) (s : ByteArray) (a : Int) (w : World) (hR : Blk w R (rdrA s a) 110) (hs : s.size ≤ 140737488351232) (h0 : 0 ≤ a) (h1 : a ≤ s.size) :
    Calls Tryd.prog 78 #[.pointer (some ⟨R, 0, none⟩)] w (RrPost R s (fun t u _ => u = .string t) w (rData s a)) := by
  have c0 := hR.cell 0
  have c1 := hR.cell 1
  have hl := hR.lt
  simp only [rdrA, List.getElem?_toArray, List.getElem?_cons_zero, List.getElem?_cons_succ] at c0 c1
  have hs0 : S2p w R s a := ⟨c0, c1⟩
  have hsd : S2p w.drew R s a := hs0
  have hld : R < w.drew.heap.size := hl
  have HB := Lib.hid (show Blk w.drew R (rdrA s a) 110 from hR)
  have CF := Lib.hid (getdata_all s a w.drew hs (by omega) (by omega))
  unfold rData
  obtain ⟨⟨n, tu, c⟩, hg⟩ : ∃ g, getD s a = g := ⟨_, rfl⟩
  rw [hg] at CF ⊢
  simp only at CF ⊢
  clear hg hR c0 c1 h0 h1 hs
  by_cases hc : c = 0
  · subst hc
    rw [if_pos rfl]
    go_enter Tryd.func78, Tryd.ntmps78
    go_wp2_with fail
    go_region_held3 (fun X => S2p X R s a) (first | (with_reducible assumption) | exact hs0 | exact hsd) (first | (go_at_call 98; refine CF.out.mono ?_; rintro e w1 ⟨rfl, rfl⟩) | (fail))
    all_goals
      have b1 : Below w.drew.heap.size w.drew w.drew := Below.refl _ _
      obtain ⟨y0, y1⟩ := hsd
      have HB1 := Lib.hid (HB.out.of_below b1)
      have k1 := HB1.out.frozen 1
      have hm := Lib.hid (((Mod.refl (· = R) w).drew).add b1)
      clear b1
      go_wp2_with (first | (go_at_call 34; (with_reducible refine (must_true _).mono ?_); rintro e w2 ⟨rfl, rfl⟩) | (fail))
      go_ret
      exact ⟨_, rfl, rfl, HB1.out.set 1 _, hm.out.setCell (.inl rfl) _⟩
  · have e0 : (c == 0) = false := by rw [beq_eq_false_iff_ne]; exact hc
    rw [if_neg hc]
    go_enter Tryd.func78, Tryd.ntmps78
    go_wp2_with fail
    go_region_held3 (fun X => S2p X R s a) (first | (with_reducible assumption) | exact hs0 | exact hsd) (first | (go_at_call 98; refine CF.out.mono ?_; rintro e w1 ⟨rfl, rfl⟩) | (fail))
    all_goals
      have b1 : Below w.drew.heap.size w.drew w.drew := Below.refl _ _
      have hm := Lib.hid (((Mod.refl (· = R) w).drew).add b1)
      clear b1
      go_wp2_with (first | (go_at_call 34; (with_reducible refine (must_false _).mono ?_); rintro e w2 ⟨rfl, rfl⟩) | (fail))
      exact ⟨rfl, rfl, hm.out⟩
theorem rid_any (R : Nat) (s : ByteArray) (a : Int) (w : World) (hR : Blk w R (rdrA s a) 110) (hs : s.size ≤ 140737488351232) (h0 : 0 ≤ a) (h1 : a ≤ s.size) :
    Calls Tryd.prog 54 #[.pointer (some ⟨R, 0, none⟩)] w (RrPost R s (fun n u _ => u = .int .i64 n) w (rId s a)) := by
  have C := Lib.hid (rnum_any R s a 2 w hR hs h0 h1)
  unfold rId
  obtain ⟨r, hr⟩ : ∃ r, rNum s 2 a = r := ⟨_, rfl⟩
  rw [hr] at C ⊢
  clear hR hs h0 h1 hr
  cases r with
  | error c =>
    show Calls _ _ _ _ (RrPost R s (fun n u _ => u = Value.int .i64 n) w (Except.error c : RR Int))
    go_enter Tryd.func54, Tryd.ntmps54
    go_wp2_with fail
    (with_reducible refine C.out.mono ?_)
    rintro e w1 ⟨rfl, hm⟩
    exact ⟨rfl, rfl, hm⟩
  | ok v =>
    obtain ⟨n, b⟩ := v
    show Calls _ _ _ _ (RrPost R s (fun n u _ => u = Value.int .i64 n) w (if n = 0 then (Except.error 130 : RR Int) else .ok (n, b)))
    by_cases hn : n = 0
    · subst hn
      rw [if_pos rfl]
      go_enter Tryd.func54, Tryd.ntmps54
      go_wp2_with fail
      (with_reducible refine C.out.mono ?_)
      rintro e w1 ⟨u, rfl, rfl, hb, hm⟩
      have HM := Lib.hid hm
      clear hm
      go_wp2_with fail
      (with_reducible refine (fail_any _ _).mono ?_)
      rintro e w2 ⟨rfl, rfl⟩
      exact ⟨rfl, rfl, HM.out⟩
    · have hn2 : (n == 0) = false := by rw [beq_eq_false_iff_ne]; exact hn
      rw [if_neg hn]
      go_enter Tryd.func54, Tryd.ntmps54
      go_wp2_with fail
      (with_reducible refine C.out.mono ?_)
      rintro e w1 ⟨u, rfl, rfl, hb, hm⟩
      have HM := Lib.hid hm
      have HB := Lib.hid hb
      clear hm hb
      go_wp2
      go_ret
      exact ⟨_, rfl, rfl, HB.out, HM.out⟩
end Go.Proofs.YtedapgeabpadaaaDoor

set_option linter.unusedVariables false
namespace Go.Proofs.YtedapgeabpadaaaDoor
open Go.Shelf Go.RowKit

/-- Of what was there, blocks of these types alone have turned. -/
structure ModT (T : TypeId → Prop) (w w' : World) : Prop where
  os : w'.os = w.os
  tape : w'.tape = w.tape
  output : w'.output = w.output
  size : w.heap.size ≤ w'.heap.size
  block : ∀ (k : Nat) (cs : Array Value) (t : TypeId) (fz : Nat × Nat), w.heap[k]? = some (Obj.cells cs t fz) → ¬ T t → w'.heap[k]? = some (Obj.cells cs t fz)
theorem ModT.refl (T : TypeId → Prop) (w : World) : ModT T w w := ⟨rfl, rfl, rfl, Nat.le_refl _, fun _ _ _ _ h _ => h⟩
theorem ModT.trans {T : TypeId → Prop} {a b c : World} (h : ModT T a b) (k : ModT T b c) : ModT T a c :=
  ⟨k.os.trans h.os, k.tape.trans h.tape, k.output.trans h.output, Nat.le_trans h.size k.size, fun i cs t fz hi ht => k.block i cs t fz (h.block i cs t fz hi ht) ht⟩
theorem ModT.of_below {T : TypeId → Prop} {a b : World} (h : Below a.heap.size a b) : ModT T a b :=
  ⟨h.os, h.tape, h.output, h.size, fun i cs t fz hi _ => (h.block i (Array.getElem?_eq_some_iff.1 hi).1).trans hi⟩
theorem ModT.weaken {T T' : TypeId → Prop} {a b : World} (h : ModT T a b) (ht : ∀ t, T t → T' t) : ModT T' a b := ⟨h.os, h.tape, h.output, h.size, fun i cs t fz hi hn => h.block i cs t fz hi (fun c => hn (ht t c))⟩
theorem Blk.modT {T : TypeId → Prop} {w w' : World} {R : Nat} {cs : Array Value} {t : TypeId} (h : Blk w R cs t) (m : ModT T w w') (ht : ¬ T t) : Blk w' R cs t := m.block R cs t (0, 0) h ht
theorem ModT.set {T : TypeId → Prop} {a b : World} {R : Nat} {cs : Array Value} {t : TypeId} (h : ModT T a b) (hb : Blk b R cs t) (ht : T t) (i : Nat) (v : Value) : ModT T a (b.setCell ⟨R, i, none⟩ v) :=
  h.trans ⟨rfl, rfl, rfl, by simp [World.setCell], fun k cs' t' fz hk hn => by
    by_cases e : k = R
    · subst e
      unfold Blk at hb
      rw [hb] at hk
      injection hk with hk
      injection hk with _ h2 _
      subst h2
      exact absurd ht hn
    · exact (Below.heap_setCell _ _ _ _ e).trans hk⟩
theorem ModT.grown {T : TypeId → Prop} {a b c : World} {B n size : Nat} {e : TypeId} {v : Value} {xs : List Value} (h : ModT T a b) (hown : b.ownsRow B e size v n xs) (hg : b.grownBy c v.ownBlock) (ht : T e) : ModT T a c :=
  h.trans ⟨hg.os, hg.tape, hg.output, hg.size, fun k cs t fz hk hn => by
    rw [hg.block k (Array.getElem?_eq_some_iff.1 hk).1 ?_]
    · exact hk
    · intro c
      rcases hown.2 with ⟨rfl, _⟩ | ⟨g, cap, cur, rfl, _, hgl, _⟩
      · cases c
      · have e1 : k = g := by simpa [Value.ownBlock] using c
        subst e1
        rw [hgl] at hk
        injection hk with hk
        injection hk with _ h2 _
        subst h2
        exact hn ht⟩
/-- A writer at block b that holds the bytes s and the code c. -/
def WrAt (B b : Nat) (s : ByteArray) (c : Int) (w : World) : Prop :=
  B ≤ b ∧ ∃ p v, (p = .pointer none ∨ p = .pointer (some ⟨b, 0, none⟩)) ∧ Blk w b #[p, v, .int .u8 c] 94 ∧ w.ownsRow B 5 1 v s.size (Lib.byteCells s.data.toList)
theorem wr_modT {T : TypeId → Prop} {B b : Nat} {s : ByteArray} {c : Int} {w w' : World} (h : WrAt B b s c w) (m : ModT T w w') (h1 : ¬ T 94) (h2 : ¬ T 5) : WrAt B b s c w' := by
  obtain ⟨hB, p, v, hp, hb, hown⟩ := h
  refine ⟨hB, p, v, hp, hb.modT m h1, hown.1, ?_⟩
  rcases hown.2 with h0 | ⟨g, cap, cur, rfl, hg, hh, hrest⟩
  · exact .inl h0
  · exact .inr ⟨g, cap, cur, rfl, hg, m.block g cur _ _ hh h2, hrest⟩
theorem wr_below {B b : Nat} {s : ByteArray} {c : Int} {w w' : World} (h : WrAt B b s c w) (m : Below w.heap.size w w') : WrAt B b s c w' := wr_modT (T := fun _ => False) h (ModT.of_below m) (fun h => h) (fun h => h)
theorem Mod.modT {T : TypeId → Prop} {w w' : World} {b : Nat} {cs : Array Value} {t : TypeId} (m : Mod (· = b) w w') (hb : Blk w b cs t) (ht : T t) : ModT T w w' :=
  ⟨m.os, m.tape, m.output, m.size, fun k cs' t' fz hk hn => by
    by_cases e : k = b
    · subst e
      unfold Blk at hb
      rw [hb] at hk
      injection hk with hk
      injection hk with _ h2 _
      subst h2
      exact absurd ht hn
    · exact (m.block k (Array.getElem?_eq_some_iff.1 hk).1 e).trans hk⟩
end Go.Proofs.YtedapgeabpadaaaDoor

set_option linter.unusedVariables false
namespace Go.Proofs.YtedapgeabpadaaaDoor
open Go.Shelf Go.RowKit Pl

/-- A writer in a world that has grown out of another. -/
structure Wst (W0 : World) (b : Nat) (o : Ot) (w : World) : Prop where
  below : Below W0.heap.size W0 w
  wr : WrAt W0.heap.size b o.s o.c w
theorem Wst.step {W0 : World} {b : Nat} {o : Ot} {w w' : World} (h : Wst W0 b o w) (m : Below w.heap.size w w') : Wst W0 b o w' := ⟨h.below.trans (m.mono h.below.size), wr_below h.wr m⟩
theorem Wst.alloc {W0 : World} {b : Nat} {o : Ot} {w : World} (h : Wst W0 b o w) (x : Obj) : Wst W0 b o (w.alloc x) := h.step ((Below.refl _ _).alloc (Nat.le_refl _) x)
end Go.Proofs.YtedapgeabpadaaaDoor

namespace Go.Proofs.YtedapgeabpadaaaDoor
open Go.RowKit Pl

set_option maxHeartbeats 1600000 in
theorem kind_any (n : Int) (w : World) : Calls Tryd.prog 93 #[.int .i64 n] w fun e w' => e = .returned (.int .i64 (kindOf n)) ∧ w = w' := by
  go_enter Tryd.func93, Tryd.ntmps93
  go_wp2
  all_goals go_ret
  all_goals first
    | exact ⟨ret_int (kindE ‹(n == _) = true› (by decide)), rfl⟩
    | exact ⟨ret_int (kindN ‹_› ‹_› ‹_› ‹_› ‹_› ‹_› ‹_› ‹_› ‹_› ‹_› ‹_› ‹_› ‹_› ‹_› ‹_› ‹_› ‹_› ‹_› ‹_› ‹_› ‹_› ‹_› ‹_› ‹_› ‹_› ‹_› ‹_›), rfl⟩

theorem refin_any (b : Nat) (l : List Int) (n : Int) (w : World) (hl : l.length ≤ 1000) (hc : ∀ j, j < l.length → w.cell? ⟨b, j, none⟩ = some (.int .i64 (l.getD j 0))) :
    Calls Tryd.prog 116 #[.int .i64 n, .slice (some ⟨b, 0, none⟩) l.length l.length] w fun e w' => e = .returned (.bool (isIn n l)) ∧ w = w' := by
  have Hc := Lib.hid hc
  clear hc
  go_enter Tryd.func116, Tryd.ntmps116
  go_wp2
  go_loop [5] (fun i => ∃ k : Nat, i = .int .i64 k ∧ k ≤ l.length ∧ Hid (∀ j, j < k → l.getD j 0 ≠ n)) (fun i => l.length - (intOf i).toNat)
  case atStart => exact ⟨0, rfl, by omega, fun j hj => absurd hj (by omega)⟩
  case round =>
    obtain ⟨k, rfl, hk, hno⟩ := hrel
    by_cases hlt : k < l.length
    · have hcell := Hc.out k hlt
      obtain ⟨x, hx⟩ : ∃ x, l.getD k 0 = x := ⟨_, rfl⟩
      rw [hx] at hcell
      have Hx := Lib.hid hx
      clear hx
      by_cases he : x = n
      · have hhit := Lib.hid (isIn_hit hlt (Hx.out.trans he))
        subst he
        go_wp2
        go_ret
        exact ⟨ret_bool hhit.out.symm, rfl⟩
      · have hne : (x == n) = false := by rw [beq_eq_false_iff_ne]; exact he
        go_wp2
        go_round
        case rel => exact ⟨k + 1, by go_num, by omega, fun j hj => by
          by_cases hjk : j = k
          · subst hjk; rw [Hx.out]; exact he
          · exact hno.out j (by omega)⟩
        case measure => simp [intOf]; omega
    · have hnone := Lib.hid (isIn_none (n := n) (l := l) fun j hj => hno.out j (by omega))
      go_wp2
      go_ret
      exact ⟨ret_bool hnone.out.symm, rfl⟩

set_option maxHeartbeats 1600000 in
theorem refkind_any (n : Int) (w : World) : Calls Tryd.prog 104 #[.int .i64 n] w fun e w' => e = .returned (.int .i64 (kindOf n)) ∧ Below w.heap.size w w' := by
  obtain ⟨a, ha⟩ : ∃ a, isIn n [1, 23, 25, 36, 37, 40, 41, 42] = a := ⟨_, rfl⟩
  obtain ⟨b, hb⟩ : ∃ a, isIn n [19, 33, 34, 35] = a := ⟨_, rfl⟩
  obtain ⟨c, hc⟩ : ∃ a, isIn n [2, 17, 24, 39] = a := ⟨_, rfl⟩
  obtain ⟨d, hd⟩ : ∃ a, isIn n [9, 22] = a := ⟨_, rfl⟩
  obtain ⟨f, hf⟩ : ∃ a, isIn n [3, 8, 18, 21, 26, 28, 31] = a := ⟨_, rfl⟩
  obtain ⟨k1, k2, k3, k4, k5, k6, k7, k0⟩ := kindW n ha hb hc hd hf
  have K0 := Lib.hid k0
  have K1 := Lib.hid k1
  have K2 := Lib.hid k2
  have K3 := Lib.hid k3
  have K4 := Lib.hid k4
  have K5 := Lib.hid k5
  have K6 := Lib.hid k6
  have K7 := Lib.hid k7
  clear k0 k1 k2 k3 k4 k5 k6 k7
  go_enter Tryd.func104, Tryd.ntmps104
  go_wp2_with fail
  refine (refin_any _ [1, 23, 25, 36, 37, 40, 41, 42] n _ (by decide) ?_).mono ?_
  · exact cells_new _ .i64 3 [1, 23, 25, 36, 37, 40, 41, 42] _ (by simp)
  rintro e w' ⟨rfl, rfl⟩
  rw [ha]
  go_wp2_with fail
  refine (refin_any _ [19, 33, 34, 35] n _ (by decide) ?_).mono ?_
  · exact cells_new _ .i64 3 [19, 33, 34, 35] _ (by simp)
  rintro e w' ⟨rfl, rfl⟩
  rw [hb]
  go_wp2_with fail
  refine (refin_any _ [2, 17, 24, 39] n _ (by decide) ?_).mono ?_
  · exact cells_new _ .i64 3 [2, 17, 24, 39] _ (by simp)
  rintro e w' ⟨rfl, rfl⟩
  rw [hc]
  go_wp2_with fail
  refine (refin_any _ [9, 22] n _ (by decide) ?_).mono ?_
  · exact cells_new _ .i64 3 [9, 22] _ (by simp)
  rintro e w' ⟨rfl, rfl⟩
  rw [hd]
  go_wp2_with fail
  refine (refin_any _ [3, 8, 18, 21, 26, 28, 31] n _ (by decide) ?_).mono ?_
  · exact cells_new _ .i64 3 [3, 8, 18, 21, 26, 28, 31] _ (by simp)
  rintro e w' ⟨rfl, rfl⟩
  rw [hf]
  clear ha hb hc hd hf
  go_wp2
  all_goals go_ret
  all_goals refine ⟨?_, ?_⟩
  all_goals first
    | exact ret_int (K1.out ‹_›)
    | exact ret_int (K2.out ‹_› ‹_›)
    | exact ret_int (K3.out ‹_› ‹_› ‹_›)
    | exact ret_int (K4.out ‹_› ‹_› ‹_› ‹_›)
    | exact ret_int (K5.out ‹_› ‹_› ‹_› ‹_› ‹_›)
    | exact ret_int (K6.out ‹_› ‹_› ‹_› ‹_› ‹_› ‹_›)
    | exact ret_int (K7.out ‹_› ‹_› ‹_› ‹_› ‹_› ‹_› ‹_›)
    | exact ret_int (K0.out ‹_› ‹_› ‹_› ‹_› ‹_› ‹_› ‹_›)
    | go_grown
end Go.Proofs.YtedapgeabpadaaaDoor

namespace Go.Proofs.YtedapgeabpadaaaDoor
set_option linter.unusedVariables false
open Go.RowKit

theorem info_p1 : (Tryd.prog.info? 123).map (fun i => (i.zero, i.size, i.bytes)) = some (some (.agg #[.int .i64 0, .int .i64 0, .string ⟨#[]⟩, .string ⟨#[]⟩]), 4, 48) := by kernel_rfl
theorem info_p2 : (Tryd.prog.info? 122).map (fun i => (i.zero, i.size, i.bytes)) = some (some (.agg #[.int .i64 0, .int .i64 0, .string ⟨#[]⟩, .string ⟨#[]⟩]), 4, 48) := by kernel_rfl
end Go.Proofs.YtedapgeabpadaaaDoor

namespace Go.Proofs.YtedapgeabpadaaaDoor
set_option linter.unusedVariables false
open Go.RowKit

def zP : Pp := ⟨0, 0, ⟨#[]⟩, ⟨#[]⟩⟩
theorem find1_any (B : Nat) (id : Int) (p : Pp) (w : World) (hB : w.cell? ⟨B, 0, none⟩ = some (.int .i64 id)) (hl : B < w.heap.size) :
    Calls Tryd.prog 121 #[.agg #[.int .i64 p.id, .int .i64 p.n, .string p.s, .string p.t], .pointer (some ⟨B, 0, none⟩)] w fun e w' => e = .returned (.bool (p.id == id)) ∧ Below w.heap.size w w' := by
  have e1 : (w.alloc (.cells #[.int .i64 p.id, .int .i64 p.n, .string p.s, .string p.t] 123)).cell? ⟨B, 0, none⟩ = some (.int .i64 id) := (World.cell?_alloc_past _ _ _ hl).trans hB
  obtain ⟨t, ht⟩ : ∃ t, (p.id == id) = t := ⟨_, rfl⟩
  rw [ht]
  go_enter Tryd.func121, Tryd.ntmps121
  go_wp2
  go_ret
  exact ⟨rfl, (Below.refl _ _).alloc (Nat.le_refl _) _⟩
theorem find_here {L : List Pp} {k : Nat} {x : Pp} {q : Pp → Bool} (hx : L[k]? = some x) (h : (L.take k).any q = false) (hq : q x = true) : L.find? q = some x := by
  have hk := (List.getElem?_eq_some_iff.1 hx).1
  have e : L = L.take k ++ x :: L.drop (k + 1) := by
    have h2 := List.drop_eq_getElem_cons hk
    rw [(List.getElem?_eq_some_iff.1 hx).2] at h2
    rw [← h2, List.take_append_drop]
  rw [e, List.find?_append, List.find?_cons_of_pos hq]
  have : (L.take k).find? q = none := by
    rw [List.find?_eq_none]
    intro y hy
    have := List.any_eq_false.1 h y hy
    exact this
  rw [this]; rfl
theorem find_not {L : List Pp} {q : Pp → Bool} (h : L.any q = false) : L.find? q = none := by
  rw [List.find?_eq_none]
  exact List.any_eq_false.1 h
theorem any_take_p {L : List Pp} {k : Nat} {x : Pp} {q : Pp → Bool} (hx : L[k]? = some x) (h : (L.take k).any q = false) (hq : q x = false) : (L.take (k + 1)).any q = false := by
  rw [List.take_add_one, hx, List.any_append, h]
  simp [hq]
set_option maxHeartbeats 1000000 in
theorem pindex_any (fn : Nat) (first cp : Array Value) (q : Pp → Bool) (A : Option Addr) (n cap : Nat) (L : List Pp) (w : World) (hn : L.length = n) (hm : n ≤ 1048576) (h : PRow w A L)
    (he : ∀ args w, (callFunc fn args).run Tryd.prog w = .ok (.enter fn args) w)
    (hf : ∀ (p : Pp) (W : World), Below w.heap.size w W → Calls Tryd.prog fn (first.push (.agg #[.int .i64 p.id, .int .i64 p.n, .string p.s, .string p.t]) ++ cp) W fun e w' => e = .returned (.bool (q p)) ∧ Below W.heap.size W w') :
    Calls Tryd.prog 96 #[.slice A n cap, .func (.func fn) first cp] w fun e w' => ∃ z : Int, e = .returned (.int .i64 z) ∧ ((z = -1 ∧ L.find? q = none) ∨ (∃ (k : Nat) (p : Pp), z = k ∧ L[k]? = some p ∧ L.find? q = some p)) ∧ Below w.heap.size w w' := by
  have H := Lib.hid h
  have HN := Lib.hid hn
  have HF := Lib.hid hf
  clear h hn hf
  go_enter Tryd.func96, Tryd.ntmps96
  go_wp2
  go_loopw [5, 8] (fun _ i wr => ∃ k : Nat, i = .int .i64 k ∧ k ≤ n ∧ Hid ((L.take k).any q = false) ∧ Below w.heap.size w wr) (fun _ i _ => n - (intOf i).toNat)
  case atStart => exact ⟨0, rfl, by omega, Lib.hid rfl, Below.refl _ _⟩
  case round =>
    obtain ⟨k, rfl, hk, hv, hbel⟩ := hrel
    by_cases hlt : k < n
    · obtain ⟨b, o, rfl, hl, hc⟩ := (H.out.below hbel) (by rw [HN.out]; omega)
      obtain ⟨x, hx⟩ : ∃ x, L[k]? = some x := ⟨_, List.getElem?_eq_getElem (by rw [HN.out]; exact hlt)⟩
      obtain ⟨e1, e2, e3, e4⟩ := hc k x hx
      have CF := HF.out x wr hbel
      obtain ⟨y, hy⟩ : ∃ y, q x = y := ⟨_, rfl⟩
      rw [hy] at CF
      have CF := Lib.hid CF
      have hkn : (k : Int) < (n : Int) := by omega
      cases y
      · have Hr := Lib.hid (any_take_p hx hv.out hy)
        clear hx hc hy
        go_wp2_with (go_at_fn fn; refine CF.out.mono ?_; rintro e w1 ⟨rfl, b1⟩)
        go_roundw
        case rel => exact ⟨k + 1, by go_num, by omega, Hr, hbel.trans (b1.mono hbel.size)⟩
        case measure => simp [intOf]; omega
      · have Hr := Lib.hid (find_here hx hv.out hy)
        have Hx := Lib.hid hx
        clear hx hc hy
        go_wp2_with (go_at_fn fn; refine CF.out.mono ?_; rintro e w1 ⟨rfl, b1⟩)
        go_ret
        exact ⟨_, rfl, .inr ⟨k, x, rfl, Hx.out, Hr.out⟩, hbel.trans (b1.mono hbel.size)⟩
    · have Hr := Lib.hid (show L.any q = false by
        have h := hv.out
        rw [List.take_of_length_le (by rw [HN.out]; omega)] at h
        exact h)
      go_wp2
      go_ret
      exact ⟨_, rfl, .inl ⟨rfl, find_not Hr.out⟩, hbel⟩
/-- The first of an identifier. -/
def fnd (L : List Pp) (id : Int) : Option Pp := L.find? fun p => p.id == id
set_option maxHeartbeats 1000000 in
theorem find_any (A : Option Addr) (n cap : Nat) (L : List Pp) (id : Int) (w : World) (hn : L.length = n) (hm : n ≤ 1048576) (h : PRow w A L) :
    Calls Tryd.prog 110 #[.slice A n cap, .int .i64 id] w fun e w' => e = .returned (.tuple #[ppV ((fnd L id).getD zP), .bool (fnd L id).isSome]) ∧ Below w.heap.size w w' := by
  have b0 : Below w.heap.size w ((w.alloc (.cells #[.int .i64 id] 3)).alloc (.cells #[.int .i64 0, .int .i64 0, .string ⟨#[]⟩, .string ⟨#[]⟩] 123)) := ((Below.refl _ _).alloc (Nat.le_refl _) _).alloc (by simp) _
  have hb0 : ((w.alloc (.cells #[.int .i64 id] 3)).alloc (.cells #[.int .i64 0, .int .i64 0, .string ⟨#[]⟩, .string ⟨#[]⟩] 123)).cell? ⟨w.heap.size, 0, none⟩ = some (.int .i64 id) := (World.cell?_alloc_past _ _ _ (by simp)).trans (World.cell?_alloc_at _ _ _ _ rfl)
  have hm0 : ∀ j, ((w.alloc (.cells #[.int .i64 id] 3)).alloc (.cells #[.int .i64 0, .int .i64 0, .string ⟨#[]⟩, .string ⟨#[]⟩] 123)).cell? ⟨w.heap.size + 1, j, none⟩ = (#[.int .i64 0, .int .i64 0, .string ⟨#[]⟩, .string ⟨#[]⟩] : Array Value)[j]? := fun j => World.cell?_alloc_at _ _ _ _ (by simp)
  have hf0 : ∀ j, ((w.alloc (.cells #[.int .i64 id] 3)).alloc (.cells #[.int .i64 0, .int .i64 0, .string ⟨#[]⟩, .string ⟨#[]⟩] 123)).frozen? ⟨w.heap.size + 1, j, none⟩ = false := fun j => by simp [go_sem]
  have hz0 : w.heap.size + 2 = ((w.alloc (.cells #[.int .i64 id] 3)).alloc (.cells #[.int .i64 0, .int .i64 0, .string ⟨#[]⟩, .string ⟨#[]⟩] 123)).heap.size := by simp
  obtain ⟨W, hW⟩ : ∃ W, (w.alloc (.cells #[.int .i64 id] 3)).alloc (.cells #[.int .i64 0, .int .i64 0, .string ⟨#[]⟩, .string ⟨#[]⟩] 123) = W := ⟨_, rfl⟩
  have hW2 := hW
  rw [hW] at b0 hb0 hm0 hf0 hz0
  have C := pindex_any 121 #[] #[.pointer (some ⟨w.heap.size, 0, none⟩)] (fun p => p.id == id) A n cap L W hn hm (h.below b0) (enters_of Tryd.func121 (by kernel_rfl) rfl) (fun p Y hb => find1_any w.heap.size id p Y ((hb.cell (p := ⟨w.heap.size, 0, none⟩) (by simp only; omega)).trans hb0) (Nat.lt_of_lt_of_le (by omega) hb.size))
  have H := Lib.hid (h.below b0)
  have HN := Lib.hid hn
  obtain ⟨R, hR⟩ : ∃ R, fnd L id = R := ⟨_, rfl⟩
  rw [hR]
  change (L.find? fun p => p.id == id) = R at hR
  rw [hR] at C
  have C := Lib.hid C
  have B0 := Lib.hid b0
  have M0 := Lib.hid hm0
  have F0 := Lib.hid hf0
  have HW := Lib.hid hW
  clear h hn hR b0 hm0 hf0 hW hb0 hW2
  go_enter Tryd.func110, Tryd.ntmps110
  go_wp2_with fail
  rw [HW.out]
  refine C.out.mono ?_
  rintro e w1 ⟨z, rfl, hz, b1⟩
  have hl1 : w.heap.size + 1 < w1.heap.size := by have := b1.size; omega
  have cc : ∀ j, w1.cell? ⟨w.heap.size + 1, j, none⟩ = _ := fun j => (b1.cell (p := ⟨w.heap.size + 1, j, none⟩) (by simp only; omega)).trans (M0.out j)
  have ff : ∀ j, w1.frozen? ⟨w.heap.size + 1, j, none⟩ = false := fun j => (b1.frozen (p := ⟨w.heap.size + 1, j, none⟩) (by simp only; omega)).trans (F0.out j)
  have m0 := cc 0
  have m1 := cc 1
  have m2 := cc 2
  have m3 := cc 3
  simp only [List.getElem?_toArray, List.getElem?_cons_zero, List.getElem?_cons_succ] at m0 m1 m2 m3
  have f0 := ff 0
  have f1 := ff 1
  have f2 := ff 2
  have f3 := ff 3
  have Bb := Lib.hid (B0.out.trans (b1.mono B0.out.size))
  have H1 := Lib.hid (H.out.below b1)
  clear cc ff b1
  rcases hz with ⟨rfl, rfl⟩ | ⟨k, p, rfl, hk, rfl⟩
  · go_wp2
    refine bodyPost_ret (v := .tuple #[.agg #[.int .i64 0, .int .i64 0, .string ⟨#[]⟩, .string ⟨#[]⟩], .bool false]) (by simp [results, Tryd.results110, go_sem, m0, m1, m2, m3]) rfl ⟨rfl, ?_⟩
    exact (((Bb.out.setCell (by simp) _).setCell (by simp) _).setCell (by simp) _).setCell (by simp) _
  · have hkn := (List.getElem?_eq_some_iff.1 hk).1
    rw [HN.out] at hkn
    obtain ⟨b, o, rfl, hl, hc⟩ := H1.out (by rw [HN.out]; omega)
    obtain ⟨e1, e2, e3, e4⟩ := hc k p hk
    have hkI : (k : Int) < (n : Int) := by omega
    have hk0 : ¬ (k : Int) < 0 := by omega
    clear hc hk
    go_wp2
    refine bodyPost_ret (v := .tuple #[.agg #[.int .i64 p.id, .int .i64 p.n, .string p.s, .string p.t], .bool true]) (by simp [results, Tryd.results110, go_sem, m0, m1, m2, m3]) rfl ⟨rfl, ?_⟩
    exact (((Bb.out.setCell (by simp) _).setCell (by simp) _).setCell (by simp) _).setCell (by simp) _
end Go.Proofs.YtedapgeabpadaaaDoor

namespace Go.Proofs.YtedapgeabpadaaaDoor
set_option linter.unusedVariables false
open Go.RowKit Pl Go.Shelf

theorem width_any (k : Int) (w : World) : Calls Tryd.prog 111 #[.int .i64 k] w fun e w' => e = .returned (.int .i64 (wid k)) ∧ w = w' := by
  obtain ⟨d, hd⟩ : ∃ d, wid k = d := ⟨_, rfl⟩
  rw [hd]
  unfold wid at hd
  by_cases h1 : k = 1
  · subst h1
    obtain rfl : d = 1 := by rw [← hd]; rfl
    clear hd
    go_enter Tryd.func111, Tryd.ntmps111
    go_wp2
    go_ret
    exact ⟨rfl, rfl⟩
  · by_cases h2 : k = 2
    · subst h2
      obtain rfl : d = 2 := by rw [← hd]; rfl
      clear hd
      go_enter Tryd.func111, Tryd.ntmps111
      go_wp2
      go_ret
      exact ⟨rfl, rfl⟩
    · obtain rfl : d = 4 := by rw [← hd, if_neg h1, if_neg h2]
      clear hd
      have e1 : (k == 1) = false := by rw [beq_eq_false_iff_ne]; exact h1
      have e2 : (k == 2) = false := by rw [beq_eq_false_iff_ne]; exact h2
      clear h1 h2
      go_enter Tryd.func111, Tryd.ntmps111
      go_wp2
      go_ret
      exact ⟨rfl, rfl⟩
theorem refwidth_any (k : Int) (w : World) : Calls Tryd.prog 117 #[.int .i64 k] w fun e w' => e = .returned (.int .i64 (wid k)) ∧ w = w' := by
  obtain ⟨d, hd⟩ : ∃ d, wid k = d := ⟨_, rfl⟩
  rw [hd]
  unfold wid at hd
  by_cases h1 : k = 1
  · subst h1
    obtain rfl : d = 1 := by rw [← hd]; rfl
    clear hd
    go_enter Tryd.func117, Tryd.ntmps117
    go_wp2
    go_ret
    exact ⟨rfl, rfl⟩
  · by_cases h2 : k = 2
    · subst h2
      obtain rfl : d = 2 := by rw [← hd]; rfl
      clear hd
      go_enter Tryd.func117, Tryd.ntmps117
      go_wp2
      go_ret
      exact ⟨rfl, rfl⟩
    · obtain rfl : d = 4 := by rw [← hd, if_neg h1, if_neg h2]
      clear hd
      have e1 : (k == 1) = false := by rw [beq_eq_false_iff_ne]; exact h1
      have e2 : (k == 2) = false := by rw [beq_eq_false_iff_ne]; exact h2
      clear h1 h2
      go_enter Tryd.func117, Tryd.ntmps117
      go_wp2
      go_ret
      exact ⟨rfl, rfl⟩
theorem fnd_some (L : List Pp) (id : Int) : (fnd L id).isSome = L.any (fun p => p.id == id) := by
  unfold fnd
  rw [List.isSome_find?]
theorem has_any (A : Option Addr) (n cap : Nat) (L : List Pp) (id : Int) (w : World) (hn : L.length = n) (hm : n ≤ 1048576) (h : PRow w A L) :
    Calls Tryd.prog 94 #[.slice A n cap, .int .i64 id] w fun e w' => e = .returned (.bool (L.any (fun p => p.id == id) && (id != 38))) ∧ Below w.heap.size w w' := by
  have C := find_any A n cap L id w hn hm h
  rw [fnd_some] at C
  obtain ⟨ok, hok⟩ : ∃ ok, L.any (fun p => p.id == id) = ok := ⟨_, rfl⟩
  rw [hok] at C ⊢
  obtain ⟨⟨pi, pn, ps, pt⟩, hp⟩ : ∃ p, (fnd L id).getD zP = p := ⟨_, rfl⟩
  rw [hp] at C
  unfold ppV ppA at C
  have C := Lib.hid C
  clear hn hm h hok hp
  cases ok
  · go_enter Tryd.func94, Tryd.ntmps94
    go_wp2_with fail
    refine C.out.mono ?_
    rintro e w1 ⟨rfl, b1⟩
    go_wp2
    go_ret
    exact ⟨rfl, b1.alloc b1.size _⟩
  · go_enter Tryd.func94, Tryd.ntmps94
    go_wp2_with fail
    refine C.out.mono ?_
    rintro e w1 ⟨rfl, b1⟩
    go_wp2
    go_ret
    exact ⟨rfl, b1.alloc b1.size _⟩
end Go.Proofs.YtedapgeabpadaaaDoor

namespace Go.Proofs.YtedapgeabpadaaaDoor
open Go.RowKit Pl

/-- The result is some integer of which P holds; the world is as it was. -/
def SomeInt (P : Int → Prop) (w : World) (e : Ending) (w' : World) : Prop := ∃ n : Int, P n ∧ e = .returned (.int .i64 n) ∧ w = w'

theorem index_hit (b : Nat) (l : List Int) (n : Int) (w : World) (hl : l.length ≤ 1000) (hc : ∀ j, j < l.length → w.cell? ⟨b, j, none⟩ = some (.int .i64 (l.getD j 0))) (hin : isIn n l = true) :
    Calls Tryd.prog 112 #[.slice (some ⟨b, 0, none⟩) l.length l.length, .int .i64 n] w (SomeInt (fun r => 0 ≤ r) w) := by
  have Hc := Lib.hid hc
  clear hc
  go_enter Tryd.func112, Tryd.ntmps112
  go_wp2
  go_loop [8] (fun i => ∃ k : Nat, i = .int .i64 k ∧ k ≤ l.length ∧ Hid (∀ j, j < k → l.getD j 0 ≠ n)) (fun i => l.length - (intOf i).toNat)
  case atStart => exact ⟨0, rfl, by omega, fun j hj => absurd hj (by omega)⟩
  case round =>
    obtain ⟨k, rfl, hk, hno⟩ := hrel
    by_cases hlt : k < l.length
    · have hcell := Hc.out k hlt
      obtain ⟨x, hx⟩ : ∃ x, l.getD k 0 = x := ⟨_, rfl⟩
      rw [hx] at hcell
      have Hx := Lib.hid hx
      clear hx
      by_cases he : n = x
      · subst he
        go_wp2
        go_ret
        exact ⟨k, by omega, rfl, rfl⟩
      · have hne : (n == x) = false := by rw [beq_eq_false_iff_ne]; exact he
        go_wp2
        go_round
        case rel => exact ⟨k + 1, by go_num, by omega, fun j hj => by
          by_cases hjk : j = k
          · subst hjk; rw [Hx.out]; exact fun h => he h.symm
          · exact hno.out j (by omega)⟩
        case measure => simp [intOf]; omega
    · exfalso
      have := isIn_none (n := n) (l := l) fun j hj => hno.out j (by omega)
      rw [this] at hin
      exact absurd hin (by decide)

theorem index_none (b : Nat) (l : List Int) (n : Int) (w : World) (hl : l.length ≤ 1000) (hc : ∀ j, j < l.length → w.cell? ⟨b, j, none⟩ = some (.int .i64 (l.getD j 0))) (hin : isIn n l = false) :
    Calls Tryd.prog 112 #[.slice (some ⟨b, 0, none⟩) l.length l.length, .int .i64 n] w fun e w' => e = .returned (.int .i64 (-1)) ∧ w = w' := by
  have Hc := Lib.hid hc
  have Hin := Lib.hid hin
  clear hc hin
  go_enter Tryd.func112, Tryd.ntmps112
  go_wp2
  go_loop [8] (fun i => ∃ k : Nat, i = .int .i64 k ∧ k ≤ l.length) (fun i => l.length - (intOf i).toNat)
  case atStart => exact ⟨0, rfl, by omega⟩
  case round =>
    obtain ⟨k, rfl, hk⟩ := hrel
    by_cases hlt : k < l.length
    · have hcell := Hc.out k hlt
      obtain ⟨x, hx⟩ : ∃ x, l.getD k 0 = x := ⟨_, rfl⟩
      rw [hx] at hcell
      have hne : (n == x) = false := by
        rw [beq_eq_false_iff_ne]
        intro he
        have := isIn_hit hlt (hx.trans he.symm)
        rw [Hin.out] at this
        exact absurd this (by decide)
      have Hx := Lib.hid hx
      clear hx
      go_wp2
      go_round
      case rel => exact ⟨k + 1, by go_num, by omega⟩
      case measure => simp [intOf]; omega
    · go_wp2
      go_ret
      exact ⟨rfl, rfl⟩

theorem contains_any (b : Nat) (l : List Int) (n : Int) (w : World) (hl : l.length ≤ 1000) (hc : ∀ j, j < l.length → w.cell? ⟨b, j, none⟩ = some (.int .i64 (l.getD j 0))) :
    Calls Tryd.prog 97 #[.slice (some ⟨b, 0, none⟩) l.length l.length, .int .i64 n] w fun e w' => e = .returned (.bool (isIn n l)) ∧ w = w' := by
  have Hc := Lib.hid hc
  clear hc
  by_cases hin : isIn n l = true
  · have Hin := Lib.hid hin
    clear hin
    go_enter Tryd.func97, Tryd.ntmps97
    go_wp2_with fail
    refine (index_hit b l n _ hl Hc.out Hin.out).mono ?_
    rintro e w' ⟨r, hr, rfl, rfl⟩
    go_wp2
    go_ret
    exact ⟨ret_bool Hin.out.symm, rfl⟩
  · have Hin := Lib.hid (by simpa using hin : isIn n l = false)
    clear hin
    go_enter Tryd.func97, Tryd.ntmps97
    go_wp2_with fail
    refine (index_none b l n _ hl Hc.out Hin.out).mono ?_
    rintro e w' ⟨rfl, rfl⟩
    go_wp2
    go_ret
    exact ⟨ret_bool Hin.out.symm, rfl⟩

theorem contains_nil (n : Int) (w : World) :
    Calls Tryd.prog 97 #[.slice none 0 0, .int .i64 n] w fun e w' => e = .returned (.bool false) ∧ w = w' := by
  go_enter Tryd.func97, Tryd.ntmps97
  go_wp2
  refine wp_loop_rounds 1 ?_
  rw [rounds_succ]
  go_wp2
  go_ret
  exact ⟨rfl, rfl⟩

theorem refin5_any (b : Nat) (l : List Int) (n : Int) (w : World) (hl : l.length ≤ 1000) (hc : ∀ j, j < l.length → w.cell? ⟨b, j, none⟩ = some (.int .i64 (l.getD j 0))) :
    Calls Tryd.prog 118 #[.int .i64 n, .slice (some ⟨b, 0, none⟩) l.length l.length] w fun e w' => e = .returned (.bool (isIn n l)) ∧ w = w' := by
  have Hc := Lib.hid hc
  clear hc
  go_enter Tryd.func118, Tryd.ntmps118
  go_wp2
  go_loop [5] (fun i => ∃ k : Nat, i = .int .i64 k ∧ k ≤ l.length ∧ Hid (∀ j, j < k → l.getD j 0 ≠ n)) (fun i => l.length - (intOf i).toNat)
  case atStart => exact ⟨0, rfl, by omega, fun j hj => absurd hj (by omega)⟩
  case round =>
    obtain ⟨k, rfl, hk, hno⟩ := hrel
    by_cases hlt : k < l.length
    · have hcell := Hc.out k hlt
      obtain ⟨x, hx⟩ : ∃ x, l.getD k 0 = x := ⟨_, rfl⟩
      rw [hx] at hcell
      have Hx := Lib.hid hx
      clear hx
      by_cases he : x = n
      · have hhit := Lib.hid (isIn_hit hlt (Hx.out.trans he))
        subst he
        go_wp2
        go_ret
        exact ⟨ret_bool hhit.out.symm, rfl⟩
      · have hne : (x == n) = false := by rw [beq_eq_false_iff_ne]; exact he
        go_wp2
        go_round
        case rel => exact ⟨k + 1, by go_num, by omega, fun j hj => by
          by_cases hjk : j = k
          · subst hjk; rw [Hx.out]; exact he
          · exact hno.out j (by omega)⟩
        case measure => simp [intOf]; omega
    · have hnone := Lib.hid (isIn_none (n := n) (l := l) fun j hj => hno.out j (by omega))
      go_wp2
      go_ret
      exact ⟨ret_bool hnone.out.symm, rfl⟩

theorem allowed_0 (n : Int) (w : World) : Calls Tryd.prog 75 #[.int .i64 0, .int .i64 n] w fun e w' => e = .returned (.bool (alw 0 n)) ∧ Below w.heap.size w w' := by
  go_enter Tryd.func75, Tryd.ntmps75
  go_wp2_with fail
  refine (contains_any _ [1, 2, 3, 8, 9, 24, 38] n _ (by decide) ?_).mono ?_
  · exact cells_new _ .i64 3 [1, 2, 3, 8, 9, 24, 38] _ (by simp)
  rintro e w' ⟨rfl, rfl⟩
  go_wp2
  go_ret
  exact ⟨rfl, by go_grown⟩

theorem allowed_1 (n : Int) (w : World) : Calls Tryd.prog 75 #[.int .i64 1, .int .i64 n] w fun e w' => e = .returned (.bool (alw 1 n)) ∧ Below w.heap.size w w' := by
  go_enter Tryd.func75, Tryd.ntmps75
  go_wp2_with fail
  refine (contains_any _ [17, 21, 22, 23, 25, 33, 34, 38, 39] n _ (by decide) ?_).mono ?_
  · exact cells_new _ .i64 3 [17, 21, 22, 23, 25, 33, 34, 38, 39] _ (by simp)
  rintro e w' ⟨rfl, rfl⟩
  go_wp2
  go_ret
  exact ⟨rfl, by go_grown⟩

theorem allowed_2 (n : Int) (w : World) : Calls Tryd.prog 75 #[.int .i64 2, .int .i64 n] w fun e w' => e = .returned (.bool (alw 2 n)) ∧ Below w.heap.size w w' := by
  go_enter Tryd.func75, Tryd.ntmps75
  go_wp2_with fail
  refine (contains_any _ [17, 18, 19, 21, 22, 26, 28, 31, 33, 34, 36, 37, 38, 39, 40, 41, 42] n _ (by decide) ?_).mono ?_
  · exact cells_new _ .i64 3 [17, 18, 19, 21, 22, 26, 28, 31, 33, 34, 36, 37, 38, 39, 40, 41, 42] _ (by simp)
  rintro e w' ⟨rfl, rfl⟩
  go_wp2
  go_ret
  exact ⟨rfl, by go_grown⟩

theorem allowed_3 (n : Int) (w : World) : Calls Tryd.prog 75 #[.int .i64 3, .int .i64 n] w fun e w' => e = .returned (.bool (alw 3 n)) ∧ Below w.heap.size w w' := by
  go_enter Tryd.func75, Tryd.ntmps75
  go_wp2_with fail
  refine (contains_any _ [1, 2, 3, 8, 9, 11, 35, 38] n _ (by decide) ?_).mono ?_
  · exact cells_new _ .i64 3 [1, 2, 3, 8, 9, 11, 35, 38] _ (by simp)
  rintro e w' ⟨rfl, rfl⟩
  go_wp2
  go_ret
  exact ⟨rfl, by go_grown⟩

theorem allowed_4 (n : Int) (w : World) : Calls Tryd.prog 75 #[.int .i64 4, .int .i64 n] w fun e w' => e = .returned (.bool (alw 4 n)) ∧ Below w.heap.size w w' := by
  go_enter Tryd.func75, Tryd.ntmps75
  go_wp2_with fail
  refine (contains_any _ [31, 38] n _ (by decide) ?_).mono ?_
  · exact cells_new _ .i64 3 [31, 38] _ (by simp)
  rintro e w' ⟨rfl, rfl⟩
  go_wp2
  go_ret
  exact ⟨rfl, by go_grown⟩

theorem allowed_5 (n : Int) (w : World) : Calls Tryd.prog 75 #[.int .i64 5, .int .i64 n] w fun e w' => e = .returned (.bool (alw 5 n)) ∧ Below w.heap.size w w' := by
  go_enter Tryd.func75, Tryd.ntmps75
  go_wp2_with fail
  refine (contains_any _ [31, 38] n _ (by decide) ?_).mono ?_
  · exact cells_new _ .i64 3 [31, 38] _ (by simp)
  rintro e w' ⟨rfl, rfl⟩
  go_wp2
  go_ret
  exact ⟨rfl, by go_grown⟩

theorem allowed_6 (n : Int) (w : World) : Calls Tryd.prog 75 #[.int .i64 6, .int .i64 n] w fun e w' => e = .returned (.bool (alw 6 n)) ∧ Below w.heap.size w w' := by
  go_enter Tryd.func75, Tryd.ntmps75
  go_wp2_with fail
  refine (contains_any _ [31, 38] n _ (by decide) ?_).mono ?_
  · exact cells_new _ .i64 3 [31, 38] _ (by simp)
  rintro e w' ⟨rfl, rfl⟩
  go_wp2
  go_ret
  exact ⟨rfl, by go_grown⟩

theorem allowed_7 (n : Int) (w : World) : Calls Tryd.prog 75 #[.int .i64 7, .int .i64 n] w fun e w' => e = .returned (.bool (alw 7 n)) ∧ Below w.heap.size w w' := by
  go_enter Tryd.func75, Tryd.ntmps75
  go_wp2_with fail
  refine (contains_any _ [31, 38] n _ (by decide) ?_).mono ?_
  · exact cells_new _ .i64 3 [31, 38] _ (by simp)
  rintro e w' ⟨rfl, rfl⟩
  go_wp2
  go_ret
  exact ⟨rfl, by go_grown⟩

theorem allowed_8 (n : Int) (w : World) : Calls Tryd.prog 75 #[.int .i64 8, .int .i64 n] w fun e w' => e = .returned (.bool (alw 8 n)) ∧ Below w.heap.size w w' := by
  go_enter Tryd.func75, Tryd.ntmps75
  go_wp2_with fail
  refine (contains_any _ [11, 38] n _ (by decide) ?_).mono ?_
  · exact cells_new _ .i64 3 [11, 38] _ (by simp)
  rintro e w' ⟨rfl, rfl⟩
  go_wp2
  go_ret
  exact ⟨rfl, by go_grown⟩

theorem allowed_9 (n : Int) (w : World) : Calls Tryd.prog 75 #[.int .i64 9, .int .i64 n] w fun e w' => e = .returned (.bool (alw 9 n)) ∧ Below w.heap.size w w' := by
  go_enter Tryd.func75, Tryd.ntmps75
  go_wp2_with fail
  refine (contains_any _ [31, 38] n _ (by decide) ?_).mono ?_
  · exact cells_new _ .i64 3 [31, 38] _ (by simp)
  rintro e w' ⟨rfl, rfl⟩
  go_wp2
  go_ret
  exact ⟨rfl, by go_grown⟩

theorem allowed_10 (n : Int) (w : World) : Calls Tryd.prog 75 #[.int .i64 10, .int .i64 n] w fun e w' => e = .returned (.bool (alw 10 n)) ∧ Below w.heap.size w w' := by
  go_enter Tryd.func75, Tryd.ntmps75
  go_wp2_with fail
  refine (contains_any _ [38] n _ (by decide) ?_).mono ?_
  · exact cells_new _ .i64 3 [38] _ (by simp)
  rintro e w' ⟨rfl, rfl⟩
  go_wp2
  go_ret
  exact ⟨rfl, by go_grown⟩

theorem allowed_11 (n : Int) (w : World) : Calls Tryd.prog 75 #[.int .i64 11, .int .i64 n] w fun e w' => e = .returned (.bool (alw 11 n)) ∧ Below w.heap.size w w' := by
  go_enter Tryd.func75, Tryd.ntmps75
  go_wp2_with fail
  refine (contains_any _ [31, 38] n _ (by decide) ?_).mono ?_
  · exact cells_new _ .i64 3 [31, 38] _ (by simp)
  rintro e w' ⟨rfl, rfl⟩
  go_wp2
  go_ret
  exact ⟨rfl, by go_grown⟩

theorem allowed_14 (n : Int) (w : World) : Calls Tryd.prog 75 #[.int .i64 14, .int .i64 n] w fun e w' => e = .returned (.bool (alw 14 n)) ∧ Below w.heap.size w w' := by
  go_enter Tryd.func75, Tryd.ntmps75
  go_wp2_with fail
  refine (contains_any _ [17, 28, 31, 38] n _ (by decide) ?_).mono ?_
  · exact cells_new _ .i64 3 [17, 28, 31, 38] _ (by simp)
  rintro e w' ⟨rfl, rfl⟩
  go_wp2
  go_ret
  exact ⟨rfl, by go_grown⟩

theorem allowed_15 (n : Int) (w : World) : Calls Tryd.prog 75 #[.int .i64 15, .int .i64 n] w fun e w' => e = .returned (.bool (alw 15 n)) ∧ Below w.heap.size w w' := by
  go_enter Tryd.func75, Tryd.ntmps75
  go_wp2_with fail
  refine (contains_any _ [21, 22, 31, 38] n _ (by decide) ?_).mono ?_
  · exact cells_new _ .i64 3 [21, 22, 31, 38] _ (by simp)
  rintro e w' ⟨rfl, rfl⟩
  go_wp2
  go_ret
  exact ⟨rfl, by go_grown⟩

theorem allowed_other (k n : Int) (w : World) (h0 : (k == 0) = false) (h1 : (k == 1) = false) (h2 : (k == 2) = false) (h3 : (k == 3) = false) (h4 : (k == 4) = false) (h5 : (k == 5) = false) (h6 : (k == 6) = false) (h7 : (k == 7) = false) (h8 : (k == 8) = false) (h9 : (k == 9) = false) (h10 : (k == 10) = false) (h11 : (k == 11) = false) (h14 : (k == 14) = false) (h15 : (k == 15) = false) : Calls Tryd.prog 75 #[.int .i64 k, .int .i64 n] w fun e w' => e = .returned (.bool (alw k n)) ∧ Below w.heap.size w w' := by
  have hn := Lib.hid (alw_other n h0 h1 h2 h3 h4 h5 h6 h7 h8 h9 h10 h11 h14 h15)
  go_enter Tryd.func75, Tryd.ntmps75
  go_wp2_with fail
  refine (contains_nil n _).mono ?_
  rintro e w' ⟨rfl, rfl⟩
  go_wp2
  go_ret
  exact ⟨ret_bool hn.out.symm, Below.refl _ _⟩

theorem allowed_any (k n : Int) (w : World) : Calls Tryd.prog 75 #[.int .i64 k, .int .i64 n] w fun e w' => e = .returned (.bool (alw k n)) ∧ Below w.heap.size w w' := by
  by_cases h0 : k = 0
  · subst h0; exact allowed_0 n w
  by_cases h1 : k = 1
  · subst h1; exact allowed_1 n w
  by_cases h2 : k = 2
  · subst h2; exact allowed_2 n w
  by_cases h3 : k = 3
  · subst h3; exact allowed_3 n w
  by_cases h4 : k = 4
  · subst h4; exact allowed_4 n w
  by_cases h5 : k = 5
  · subst h5; exact allowed_5 n w
  by_cases h6 : k = 6
  · subst h6; exact allowed_6 n w
  by_cases h7 : k = 7
  · subst h7; exact allowed_7 n w
  by_cases h8 : k = 8
  · subst h8; exact allowed_8 n w
  by_cases h9 : k = 9
  · subst h9; exact allowed_9 n w
  by_cases h10 : k = 10
  · subst h10; exact allowed_10 n w
  by_cases h11 : k = 11
  · subst h11; exact allowed_11 n w
  by_cases h14 : k = 14
  · subst h14; exact allowed_14 n w
  by_cases h15 : k = 15
  · subst h15; exact allowed_15 n w
  exact allowed_other k n w (beq_eq_false_iff_ne.2 h0) (beq_eq_false_iff_ne.2 h1) (beq_eq_false_iff_ne.2 h2) (beq_eq_false_iff_ne.2 h3) (beq_eq_false_iff_ne.2 h4) (beq_eq_false_iff_ne.2 h5) (beq_eq_false_iff_ne.2 h6) (beq_eq_false_iff_ne.2 h7) (beq_eq_false_iff_ne.2 h8) (beq_eq_false_iff_ne.2 h9) (beq_eq_false_iff_ne.2 h10) (beq_eq_false_iff_ne.2 h11) (beq_eq_false_iff_ne.2 h14) (beq_eq_false_iff_ne.2 h15)

theorem refallowed_0 (n : Int) (w : World) : Calls Tryd.prog 107 #[.int .i64 0, .int .i64 n] w fun e w' => e = .returned (.bool (alw 0 n)) ∧ Below w.heap.size w w' := by
  go_enter Tryd.func107, Tryd.ntmps107
  go_wp2_with fail
  refine (refin5_any _ [1, 2, 3, 8, 9, 24, 38] n _ (by decide) ?_).mono ?_
  · exact cells_new _ .i64 3 [1, 2, 3, 8, 9, 24, 38] _ (by simp)
  rintro e w' ⟨rfl, rfl⟩
  go_wp2
  go_ret
  exact ⟨rfl, by go_grown⟩

theorem refallowed_1 (n : Int) (w : World) : Calls Tryd.prog 107 #[.int .i64 1, .int .i64 n] w fun e w' => e = .returned (.bool (alw 1 n)) ∧ Below w.heap.size w w' := by
  go_enter Tryd.func107, Tryd.ntmps107
  go_wp2_with fail
  refine (refin5_any _ [17, 21, 22, 23, 25, 33, 34, 38, 39] n _ (by decide) ?_).mono ?_
  · exact cells_new _ .i64 3 [17, 21, 22, 23, 25, 33, 34, 38, 39] _ (by simp)
  rintro e w' ⟨rfl, rfl⟩
  go_wp2
  go_ret
  exact ⟨rfl, by go_grown⟩

theorem refallowed_2 (n : Int) (w : World) : Calls Tryd.prog 107 #[.int .i64 2, .int .i64 n] w fun e w' => e = .returned (.bool (alw 2 n)) ∧ Below w.heap.size w w' := by
  rw [alw_2 n]
  obtain ⟨a, ha⟩ : ∃ a, isIn n [17, 18, 19, 21, 22, 26, 28, 31, 33, 34] = a := ⟨_, rfl⟩
  rw [ha]
  cases a
  all_goals
    go_enter Tryd.func107, Tryd.ntmps107
    go_wp2_with fail
    refine (refin5_any _ [17, 18, 19, 21, 22, 26, 28, 31, 33, 34] n _ (by decide) ?_).mono ?_
    · exact cells_new _ .i64 3 [17, 18, 19, 21, 22, 26, 28, 31, 33, 34] _ (by simp)
    rintro e w' ⟨rfl, rfl⟩
    rw [ha]
    go_wp2
    all_goals go_ret
    all_goals exact ⟨by first | rfl | (simp; done) | (simp; omega), by go_grown⟩

theorem refallowed_3 (n : Int) (w : World) : Calls Tryd.prog 107 #[.int .i64 3, .int .i64 n] w fun e w' => e = .returned (.bool (alw 3 n)) ∧ Below w.heap.size w w' := by
  go_enter Tryd.func107, Tryd.ntmps107
  go_wp2_with fail
  refine (refin5_any _ [1, 2, 3, 8, 9, 11, 35, 38] n _ (by decide) ?_).mono ?_
  · exact cells_new _ .i64 3 [1, 2, 3, 8, 9, 11, 35, 38] _ (by simp)
  rintro e w' ⟨rfl, rfl⟩
  go_wp2
  go_ret
  exact ⟨rfl, by go_grown⟩

theorem refallowed_4 (n : Int) (w : World) : Calls Tryd.prog 107 #[.int .i64 4, .int .i64 n] w fun e w' => e = .returned (.bool (alw 4 n)) ∧ Below w.heap.size w w' := by
  have hn := Lib.hid (show alw 4 n = _ from isIn_two n 31 38)
  go_enter Tryd.func107, Tryd.ntmps107
  go_wp2
  all_goals go_ret
  all_goals exact ⟨by first | exact ret_bool hn.out.symm | (rw [hn.out]; simp [*]), Below.refl _ _⟩

theorem refallowed_5 (n : Int) (w : World) : Calls Tryd.prog 107 #[.int .i64 5, .int .i64 n] w fun e w' => e = .returned (.bool (alw 5 n)) ∧ Below w.heap.size w w' := by
  have hn := Lib.hid (show alw 5 n = _ from isIn_two n 31 38)
  go_enter Tryd.func107, Tryd.ntmps107
  go_wp2
  all_goals go_ret
  all_goals exact ⟨by first | exact ret_bool hn.out.symm | (rw [hn.out]; simp [*]), Below.refl _ _⟩

theorem refallowed_6 (n : Int) (w : World) : Calls Tryd.prog 107 #[.int .i64 6, .int .i64 n] w fun e w' => e = .returned (.bool (alw 6 n)) ∧ Below w.heap.size w w' := by
  have hn := Lib.hid (show alw 6 n = _ from isIn_two n 31 38)
  go_enter Tryd.func107, Tryd.ntmps107
  go_wp2
  all_goals go_ret
  all_goals exact ⟨by first | exact ret_bool hn.out.symm | (rw [hn.out]; simp [*]), Below.refl _ _⟩

theorem refallowed_7 (n : Int) (w : World) : Calls Tryd.prog 107 #[.int .i64 7, .int .i64 n] w fun e w' => e = .returned (.bool (alw 7 n)) ∧ Below w.heap.size w w' := by
  have hn := Lib.hid (show alw 7 n = _ from isIn_two n 31 38)
  go_enter Tryd.func107, Tryd.ntmps107
  go_wp2
  all_goals go_ret
  all_goals exact ⟨by first | exact ret_bool hn.out.symm | (rw [hn.out]; simp [*]), Below.refl _ _⟩

theorem refallowed_8 (n : Int) (w : World) : Calls Tryd.prog 107 #[.int .i64 8, .int .i64 n] w fun e w' => e = .returned (.bool (alw 8 n)) ∧ Below w.heap.size w w' := by
  have hn := Lib.hid (show alw 8 n = _ from isIn_two n 11 38)
  go_enter Tryd.func107, Tryd.ntmps107
  go_wp2
  all_goals go_ret
  all_goals exact ⟨by first | exact ret_bool hn.out.symm | (rw [hn.out]; simp [*]), Below.refl _ _⟩

theorem refallowed_9 (n : Int) (w : World) : Calls Tryd.prog 107 #[.int .i64 9, .int .i64 n] w fun e w' => e = .returned (.bool (alw 9 n)) ∧ Below w.heap.size w w' := by
  have hn := Lib.hid (show alw 9 n = _ from isIn_two n 31 38)
  go_enter Tryd.func107, Tryd.ntmps107
  go_wp2
  all_goals go_ret
  all_goals exact ⟨by first | exact ret_bool hn.out.symm | (rw [hn.out]; simp [*]), Below.refl _ _⟩

theorem refallowed_10 (n : Int) (w : World) : Calls Tryd.prog 107 #[.int .i64 10, .int .i64 n] w fun e w' => e = .returned (.bool (alw 10 n)) ∧ Below w.heap.size w w' := by
  have hn := Lib.hid (show alw 10 n = _ from isIn_one n 38)
  go_enter Tryd.func107, Tryd.ntmps107
  go_wp2
  all_goals go_ret
  all_goals exact ⟨by first | exact ret_bool hn.out.symm | (rw [hn.out]; simp [*]), Below.refl _ _⟩

theorem refallowed_11 (n : Int) (w : World) : Calls Tryd.prog 107 #[.int .i64 11, .int .i64 n] w fun e w' => e = .returned (.bool (alw 11 n)) ∧ Below w.heap.size w w' := by
  have hn := Lib.hid (show alw 11 n = _ from isIn_two n 31 38)
  go_enter Tryd.func107, Tryd.ntmps107
  go_wp2
  all_goals go_ret
  all_goals exact ⟨by first | exact ret_bool hn.out.symm | (rw [hn.out]; simp [*]), Below.refl _ _⟩

theorem refallowed_14 (n : Int) (w : World) : Calls Tryd.prog 107 #[.int .i64 14, .int .i64 n] w fun e w' => e = .returned (.bool (alw 14 n)) ∧ Below w.heap.size w w' := by
  go_enter Tryd.func107, Tryd.ntmps107
  go_wp2_with fail
  refine (refin5_any _ [17, 28, 31, 38] n _ (by decide) ?_).mono ?_
  · exact cells_new _ .i64 3 [17, 28, 31, 38] _ (by simp)
  rintro e w' ⟨rfl, rfl⟩
  go_wp2
  go_ret
  exact ⟨rfl, by go_grown⟩

theorem refallowed_15 (n : Int) (w : World) : Calls Tryd.prog 107 #[.int .i64 15, .int .i64 n] w fun e w' => e = .returned (.bool (alw 15 n)) ∧ Below w.heap.size w w' := by
  go_enter Tryd.func107, Tryd.ntmps107
  go_wp2_with fail
  refine (refin5_any _ [21, 22, 31, 38] n _ (by decide) ?_).mono ?_
  · exact cells_new _ .i64 3 [21, 22, 31, 38] _ (by simp)
  rintro e w' ⟨rfl, rfl⟩
  go_wp2
  go_ret
  exact ⟨rfl, by go_grown⟩

theorem refallowed_other (k n : Int) (w : World) (h0 : (k == 0) = false) (h1 : (k == 1) = false) (h2 : (k == 2) = false) (h3 : (k == 3) = false) (h4 : (k == 4) = false) (h5 : (k == 5) = false) (h6 : (k == 6) = false) (h7 : (k == 7) = false) (h8 : (k == 8) = false) (h9 : (k == 9) = false) (h10 : (k == 10) = false) (h11 : (k == 11) = false) (h14 : (k == 14) = false) (h15 : (k == 15) = false) : Calls Tryd.prog 107 #[.int .i64 k, .int .i64 n] w fun e w' => e = .returned (.bool (alw k n)) ∧ Below w.heap.size w w' := by
  have hn := Lib.hid (alw_other n h0 h1 h2 h3 h4 h5 h6 h7 h8 h9 h10 h11 h14 h15)
  go_enter Tryd.func107, Tryd.ntmps107
  go_wp2
  go_ret
  exact ⟨ret_bool hn.out.symm, Below.refl _ _⟩

theorem refallowed_any (k n : Int) (w : World) : Calls Tryd.prog 107 #[.int .i64 k, .int .i64 n] w fun e w' => e = .returned (.bool (alw k n)) ∧ Below w.heap.size w w' := by
  by_cases h0 : k = 0
  · subst h0; exact refallowed_0 n w
  by_cases h1 : k = 1
  · subst h1; exact refallowed_1 n w
  by_cases h2 : k = 2
  · subst h2; exact refallowed_2 n w
  by_cases h3 : k = 3
  · subst h3; exact refallowed_3 n w
  by_cases h4 : k = 4
  · subst h4; exact refallowed_4 n w
  by_cases h5 : k = 5
  · subst h5; exact refallowed_5 n w
  by_cases h6 : k = 6
  · subst h6; exact refallowed_6 n w
  by_cases h7 : k = 7
  · subst h7; exact refallowed_7 n w
  by_cases h8 : k = 8
  · subst h8; exact refallowed_8 n w
  by_cases h9 : k = 9
  · subst h9; exact refallowed_9 n w
  by_cases h10 : k = 10
  · subst h10; exact refallowed_10 n w
  by_cases h11 : k = 11
  · subst h11; exact refallowed_11 n w
  by_cases h14 : k = 14
  · subst h14; exact refallowed_14 n w
  by_cases h15 : k = 15
  · subst h15; exact refallowed_15 n w
  exact refallowed_other k n w (beq_eq_false_iff_ne.2 h0) (beq_eq_false_iff_ne.2 h1) (beq_eq_false_iff_ne.2 h2) (beq_eq_false_iff_ne.2 h3) (beq_eq_false_iff_ne.2 h4) (beq_eq_false_iff_ne.2 h5) (beq_eq_false_iff_ne.2 h6) (beq_eq_false_iff_ne.2 h7) (beq_eq_false_iff_ne.2 h8) (beq_eq_false_iff_ne.2 h9) (beq_eq_false_iff_ne.2 h10) (beq_eq_false_iff_ne.2 h11) (beq_eq_false_iff_ne.2 h14) (beq_eq_false_iff_ne.2 h15)
end Go.Proofs.YtedapgeabpadaaaDoor

