/- The properties at a place: plain. -/
import Derived.Test.YtifbkfkieppacaaDoorPutP
import Derived.Test.YtifbkfkieppacaaDoorVarGet
namespace Go.Proofs.YtifbkfkieppacaaDoor
set_option linter.unusedVariables false
open Go.RowKit Pl

def noS : ByteArray := ⟨#[]⟩
/-- The value of a property at a place: the property, the place behind it; none: it isn't there. -/
def rdv (s : ByteArray) (id : Int) (a : Int) : Option (Pp × Int) :=
  if kindOf id = 4 then (if (getV s a).2.2 = 0 then some (⟨id, (getV s a).1, noS, noS⟩, (getV s a).2.1) else none)
  else if kindOf id = 5 then (if (getD s a).2.2 = 0 then some (⟨id, 0, (getD s a).1, noS⟩, (getD s a).2.1) else none)
  else if kindOf id = 6 then (if (tget s a).2.2 = 0 then some (⟨id, 0, (tget s a).1, noS⟩, (tget s a).2.1) else none)
  else if kindOf id = 7 then (if (tget s a).2.2 = 0 then (if (tget s (tget s a).2.1).2.2 = 0 then some (⟨id, 0, (tget s a).1, (tget s (tget s a).2.1).1⟩, (tget s (tget s a).2.1).2.1) else none) else none)
  else (if (getF s a (wid (kindOf id))).2.2 = 0 then some (⟨id, (getF s a (wid (kindOf id))).1, noS, noS⟩, (getF s a (wid (kindOf id))).2.1) else none)
def dupL (L : List Pp) (id : Int) : Bool := L.any (fun p => p.id == id) && (id != 38)
/-- The rest of the properties, behind those that have been read. -/
def pgs (s : ByteArray) : Nat → List Pp → Int → List Pp × Int
  | 0, L, _ => (L, 0)
  | f + 1, L, a =>
    if (s.size : Int) ≤ a then (L, 0) else if 64 ≤ L.length then ([], 149)
    else if (getV s a).2.2 ≠ 0 ∨ kindOf (getV s a).1 = 0 then ([], 129)
    else if dupL L (getV s a).1 = true then ([], 130)
    else match rdv s (getV s a).1 (getV s a).2.1 with
      | none => ([], 129)
      | some (p, to) => pgs s f (L ++ [p]) to
def getP (s : ByteArray) (at_ : Int) : List Pp × Int × Int :=
  if (getV s at_).2.2 ≠ 0 then ([], 0, (getV s at_).2.2)
  else if (s.size : Int) - (getV s at_).2.1 < (getV s at_).1 then ([], 0, 242)
  else
    let r := pgs (s.extract (getV s at_).2.1.toNat ((getV s at_).2.1.toNat + (getV s at_).1.toNat)) 66 [] 0
    if r.2 ≠ 0 then ([], 0, r.2) else (r.1, (getV s at_).2.1 + (getV s at_).1, 0)
theorem pgs_end {s : ByteArray} {f : Nat} {L : List Pp} {a : Int} (h : (s.size : Int) ≤ a) : pgs s f L a = (L, 0) := by
  cases f with
  | zero => rfl
  | succ f => unfold pgs; rw [if_pos h]
theorem pgs_full {s : ByteArray} {f : Nat} {L : List Pp} {a : Int} (h : ¬ (s.size : Int) ≤ a) (h1 : 64 ≤ L.length) : pgs s (f + 1) L a = ([], 149) := by
  unfold pgs; rw [if_neg h, if_pos h1]
theorem pgs_bad {s : ByteArray} {f : Nat} {L : List Pp} {a id nx d : Int} (h : ¬ (s.size : Int) ≤ a) (h1 : ¬ 64 ≤ L.length) (hg : getV s a = (id, nx, d)) (h2 : d ≠ 0 ∨ kindOf id = 0) : pgs s (f + 1) L a = ([], 129) := by
  unfold pgs; rw [if_neg h, if_neg h1, hg, if_pos h2]
theorem pgs_dup {s : ByteArray} {f : Nat} {L : List Pp} {a id nx : Int} (h : ¬ (s.size : Int) ≤ a) (h1 : ¬ 64 ≤ L.length) (hg : getV s a = (id, nx, 0)) (h2 : ¬ kindOf id = 0) (h3 : dupL L id = true) : pgs s (f + 1) L a = ([], 130) := by
  unfold pgs; rw [if_neg h, if_neg h1, hg]
  simp only [ne_eq, not_true_eq_false, false_or]
  rw [if_neg h2, if_pos h3]
theorem pgs_rd {s : ByteArray} {f : Nat} {L : List Pp} {a id nx : Int} (h : ¬ (s.size : Int) ≤ a) (h1 : ¬ 64 ≤ L.length) (hg : getV s a = (id, nx, 0)) (h2 : ¬ kindOf id = 0) (h3 : dupL L id = false) :
    pgs s (f + 1) L a = match rdv s id nx with | none => ([], 129) | some (p, to) => pgs s f (L ++ [p]) to := by
  show (if (s.size : Int) ≤ a then (L, 0) else if 64 ≤ L.length then ([], 149) else if (getV s a).2.2 ≠ 0 ∨ kindOf (getV s a).1 = 0 then ([], 129) else if dupL L (getV s a).1 = true then ([], 130) else match rdv s (getV s a).1 (getV s a).2.1 with | none => ([], 129) | some (p, to) => pgs s f (L ++ [p]) to) = _
  rw [if_neg h, if_neg h1, hg]
  simp only [ne_eq, not_true_eq_false, false_or]
  rw [if_neg h2, if_neg (by rw [h3]; decide)]
theorem getP_code {s : ByteArray} {at_ n f c : Int} (h : getV s at_ = (n, f, c)) (hc : c ≠ 0) : getP s at_ = ([], 0, c) := by unfold getP; rw [h]; simp [hc]
theorem getP_none {s : ByteArray} {at_ n f : Int} (h : getV s at_ = (n, f, 0)) (hn : (s.size : Int) - f < n) : getP s at_ = ([], 0, 242) := by unfold getP; rw [h]; simp [hn]
theorem getP_bad {s : ByteArray} {at_ : Int} {m f : Nat} {L : List Pp} {c : Int} (h : getV s at_ = ((m : Int), (f : Int), 0)) (hn : f + m ≤ s.size) (hr : pgs (s.extract f (f + m)) 66 [] 0 = (L, c)) (hc : c ≠ 0) : getP s at_ = ([], 0, c) := by
  unfold getP; rw [h]
  simp only [ne_eq, not_true_eq_false, if_false, Int.toNat_natCast]
  rw [if_neg (by omega), hr]
  simp [hc]
theorem getP_ok {s : ByteArray} {at_ : Int} {m f : Nat} {L : List Pp} (h : getV s at_ = ((m : Int), (f : Int), 0)) (hn : f + m ≤ s.size) (hr : pgs (s.extract f (f + m)) 66 [] 0 = (L, 0)) : getP s at_ = (L, (f : Int) + m, 0) := by
  unfold getP; rw [h]
  simp only [ne_eq, not_true_eq_false, if_false, Int.toNat_natCast]
  rw [if_neg (by omega), hr]
  simp
end Go.Proofs.YtifbkfkieppacaaDoor
