/- Plain facts about rules: what may be one, what it makes of a topic; no program in sight. -/
import Derived.Test.YtdjiioidkgppjaaDoorMatchPlain
import Derived.Lib.Strings
namespace Go.Proofs.YtdjiioidkgppjaaDoor.Pl
open Go

/-- A rule. -/
structure Rl where
  pat : ByteArray
  dir : Int
  qos : Int
  loc : ByteArray
  rem : ByteArray
/-- Its value. -/
def ruV (r : Rl) : Value := .agg #[.string r.pat, .int .i64 r.dir, .int .i64 r.qos, .string r.loc, .string r.rem]
/-- Its cells. -/
def ruC (r : Rl) : Array Value := #[.string r.pat, .int .i64 r.dir, .int .i64 r.qos, .string r.loc, .string r.rem]
/-- What a machine can hold of it. -/
def Rl.fits (r : Rl) : Prop := r.pat.size ≤ 140737488351232 ∧ r.loc.size ≤ 140737488351232 ∧ r.rem.size ≤ 140737488351232 ∧ -9223372036854775808 ≤ r.dir ∧ r.dir ≤ 9223372036854775807 ∧ -9223372036854775808 ≤ r.qos ∧ r.qos ≤ 9223372036854775807

def pre (s : ByteArray) : Bool := decide (s.size = 0) || nameB s
def inC (d q : Int) : Int := if d < 0 ∨ 2 < d then 128 else if q < 0 ∨ 2 < q then 155 else 0
def ckR (r : Rl) : Int := if filtB r.pat then (if pre r.loc && pre r.rem then inC r.dir r.qos else 144) else 143
theorem inC_cases (d q : Int) : (d < 0 ∧ inC d q = 128) ∨ (0 ≤ d ∧ 2 < d ∧ inC d q = 128) ∨ (0 ≤ d ∧ d ≤ 2 ∧ q < 0 ∧ inC d q = 155) ∨ (0 ≤ d ∧ d ≤ 2 ∧ 0 ≤ q ∧ 2 < q ∧ inC d q = 155) ∨ (0 ≤ d ∧ d ≤ 2 ∧ 0 ≤ q ∧ q ≤ 2 ∧ inC d q = 0) := by
  unfold inC
  by_cases h1 : d < 0
  · exact .inl ⟨h1, if_pos (.inl h1)⟩
  · by_cases h2 : 2 < d
    · exact .inr (.inl ⟨by omega, h2, if_pos (.inr h2)⟩)
    · rw [if_neg (by omega)]
      by_cases h3 : q < 0
      · exact .inr (.inr (.inl ⟨by omega, by omega, h3, if_pos (.inl h3)⟩))
      · by_cases h4 : 2 < q
        · exact .inr (.inr (.inr (.inl ⟨by omega, by omega, by omega, h4, if_pos (.inr h4)⟩)))
        · exact .inr (.inr (.inr (.inr ⟨by omega, by omega, by omega, by omega, if_neg (by omega)⟩)))
theorem ckR_bd (r : Rl) : 0 ≤ ckR r ∧ ckR r ≤ 255 := by
  have h := inC_cases r.dir r.qos
  unfold ckR
  split
  · split
    · omega
    · decide
  · decide

/-- Does the topic begin with the prefix? -/
def hp (n f : ByteArray) : Bool := Lib.hasPrefix n.data.toList f.data.toList
def rst (n f : ByteArray) : ByteArray := n.extract f.size n.size
theorem hp_size {n f : ByteArray} (h : hp n f = true) : f.size ≤ n.size := by
  unfold hp Lib.hasPrefix at h
  have h2 := (List.isPrefixOf_iff_prefix.1 h).length_le
  exact h2
theorem trim_hit {n f : ByteArray} (h : hp n f = true) : (⟨(Lib.trimPrefix n.data.toList f.data.toList).toArray⟩ : ByteArray) = rst n f := by
  unfold hp at h
  unfold Lib.trimPrefix
  rw [if_pos h]
  apply ByteArray.ext
  apply Array.toList_inj.1
  unfold rst
  rw [Lib.extract_to_end]
  rfl
theorem hp_take (n f : ByteArray) : ((n.extract 0 f.size).toList == f.toList) = hp n f := by
  unfold hp Lib.hasPrefix
  rw [ByteArray.toList_eq, ByteArray.toList_eq, Lib.extract_data, Bool.eq_iff_iff, beq_iff_eq, List.isPrefixOf_iff_prefix, List.drop_zero, Nat.sub_zero]
  have hl : f.data.toList.length = f.size := rfl
  rw [← hl]
  constructor
  · intro e; rw [← e]; exact List.take_prefix _ _
  · intro e; exact (List.prefix_iff_eq_take.1 e).symm
theorem hp_short {n f : ByteArray} (h : n.size < f.size) : hp n f = false := by
  cases hh : hp n f
  · rfl
  · have := hp_size hh; omega
/-- The topic that a rule makes of another one. -/
def trn (r : Rl) (n f t : ByteArray) : ByteArray × Bool :=
  if hp n f && (decide (ckR r = 0) && (mtB r.pat (rst n f) && (nameB n && nameB (t ++ rst n f)))) then (t ++ rst n f, true) else (⟨#[]⟩, false)
def toRem (r : Rl) (n : ByteArray) : ByteArray × Bool := if r.dir = 1 then (⟨#[]⟩, false) else trn r n r.loc r.rem
def toLoc (r : Rl) (n : ByteArray) : ByteArray × Bool := if r.dir = 0 then (⟨#[]⟩, false) else trn r n r.rem r.loc
theorem ck_dir {r : Rl} (h : ckR r = 0) : 0 ≤ r.dir ∧ r.dir ≤ 2 := by
  have hc := inC_cases r.dir r.qos
  unfold ckR at h
  split at h
  · split at h
    · omega
    · exact absurd h (by decide)
  · exact absurd h (by decide)
theorem trn_ck {r : Rl} {n f t : ByteArray} (h : ckR r ≠ 0) : trn r n f t = (⟨#[]⟩, false) := by
  unfold trn; rw [decide_eq_false h]; simp
/-- The document's own way round the directions. -/
theorem toRem_ref (r : Rl) (n : ByteArray) : toRem r n = if r.dir ≠ 0 ∧ r.dir ≠ 2 then (⟨#[]⟩, false) else trn r n r.loc r.rem := by
  unfold toRem
  by_cases h : r.dir = 1
  · rw [if_pos h, if_pos (by omega)]
  · rw [if_neg h]
    by_cases h2 : r.dir ≠ 0 ∧ r.dir ≠ 2
    · rw [if_pos h2]
      exact trn_ck fun hc => by have := ck_dir hc; omega
    · rw [if_neg h2]
theorem toLoc_ref (r : Rl) (n : ByteArray) : toLoc r n = if r.dir ≠ 1 ∧ r.dir ≠ 2 then (⟨#[]⟩, false) else trn r n r.rem r.loc := by
  unfold toLoc
  by_cases h : r.dir = 0
  · rw [if_pos h, if_pos (by omega)]
  · rw [if_neg h]
    by_cases h2 : r.dir ≠ 1 ∧ r.dir ≠ 2
    · rw [if_pos h2]
      exact trn_ck fun hc => by have := ck_dir hc; omega
    · rw [if_neg h2]
/-- A rule, seen from the other side. -/
def flp (r : Rl) : Rl := { r with dir := if r.dir = 0 then 1 else if r.dir = 1 then 0 else r.dir, loc := r.rem, rem := r.loc }
theorem flp_ref (r : Rl) : (flp r).dir = if r.dir = 0 ∨ r.dir = 1 then 1 - r.dir else r.dir := by
  show (if r.dir = 0 then 1 else if r.dir = 1 then 0 else r.dir) = _
  split
  · rename_i h; rw [if_pos (Or.inl h), h]; rfl
  · split
    · rename_i h; rw [if_pos (Or.inr h), h]; rfl
    · rw [if_neg (by omega)]
end Go.Proofs.YtdjiioidkgppjaaDoor.Pl
