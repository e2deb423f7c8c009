/- Parts of the proof, joined: FokPlain, MatchPlain, RemapPlain, Cp, Cq, Mod, Fr, Ad. -/
import Derived.Test.YtenoaonlngndpaaDoorH2P1
import Derived.Lib.Strings
import Derived.Below
import Derived.Lib.Builder
import Derived.Lib.Hide
import Derived.WalkKit
import Derived.Laws.AppendOwn
import Derived.Laws.Cells
import Derived.Deep.AppendLies
import Derived.ArgAppend
import Derived.Maps.OwnSet
import Derived.Test.YtenoaonlngndpaaDoorProg
import Derived.Laws.Rows
import Derived.Laws.Tables
import Derived.Laws.CopyOwn
import Derived.Great.BuildSlice
/- Plain facts: a filter's levels, one by one; no program in sight. -/
namespace Go.Proofs.YtenoaonlngndpaaDoor.Pl
open Go

theorem fok_end {L : List Bs} {k : Nat} (h : L.length ≤ k) : fok (L.drop k) = true := by
  rw [List.drop_eq_nil_of_le h]; rfl
theorem fok_at {L : List Bs} {k : Nat} {x : Bs} (h : L[k]? = some x) : fok (L.drop k) = (lvOK x (decide (k + 1 = L.length)) && fok (L.drop (k + 1))) := by
  obtain ⟨hk, hx⟩ := List.getElem?_eq_some_iff.1 h
  rw [List.drop_eq_getElem_cons hk, hx]
  show (lvOK x (L.drop (k + 1)).isEmpty && _) = _
  congr 2
  rw [Bool.eq_iff_iff, List.isEmpty_iff, List.drop_eq_nil_iff, decide_eq_true_iff]
  omega
theorem has_one {c : UInt8} {x : Bs} (h : has c x = true) (h1 : x.length ≤ 1) : x = [c] := by
  match x, h, h1 with
  | [], h, _ => cases h
  | [b], h, _ =>
    unfold has at h
    simp at h
    rw [h]
  | _ :: _ :: _, _, h1 => simp at h1
theorem has_long {c : UInt8} {x : Bs} (h1 : ¬ x.length ≤ 1) : (x == [c]) = false := by
  rw [beq_eq_false_iff_ne]
  rintro rfl
  simp at h1
theorem lv_a {x : Bs} {n k : Nat} (h : has 35 x = true) (hk : k + 1 < n) : lvOK x (decide (k + 1 = n)) = false := by
  unfold lvOK
  rw [h, decide_eq_false (by omega)]
  simp
theorem lv_b {x : Bs} {l : Bool} (h : has 35 x = true) (hl : ¬ x.length ≤ 1) : lvOK x l = false := by
  unfold lvOK
  rw [h, has_long (c := 35) hl]
  simp
theorem lv_c {x : Bs} {n k : Nat} (h : has 35 x = true) (hl : x.length ≤ 1) (hk : k + 1 = n) : lvOK x (decide (k + 1 = n)) = true := by
  obtain rfl := has_one h hl
  rw [decide_eq_true hk]
  decide
theorem lv_d {x : Bs} {l : Bool} (h : has 43 x = true) (hl : ¬ x.length ≤ 1) : lvOK x l = false := by
  unfold lvOK
  rw [h, has_long (c := 43) hl]
  simp
theorem lv_e {x : Bs} {l : Bool} (h : has 43 x = true) (hl : x.length ≤ 1) : lvOK x l = true := by
  obtain rfl := has_one h hl
  cases l <;> decide
theorem lv_f {x : Bs} {l : Bool} (h : has 43 x = false) (h2 : has 35 x = false) : lvOK x l = true := lv_pure ⟨h, h2⟩ l
theorem filt_szd {s : ByteArray} (h : szd s = false) : filtC s = 143 := by unfold filtC filtB; rw [h]; rfl
theorem filt_lev {s : ByteArray} (h : szd s = true) : filtC s = if fok (lev s.data.toList) then 0 else 143 := by unfold filtC filtB; rw [h]; rfl
theorem szd_size {s : ByteArray} (h : szd s = true) : 0 < s.size ∧ s.size ≤ 256 ∧ (lev s.data.toList).length ≤ 32 := by
  unfold szd at h
  simp only [Bool.and_eq_true, decide_eq_true_eq] at h
  exact ⟨h.2.1, h.2.2.1, h.2.2.2⟩
theorem lev_pos (l : Bs) : 0 < (lev l).length := by rw [lev_len]; omega
/-- Does a level match another one's? -/
def one (a b : Bs) : Bool := a == [43] || a == b
theorem lev_size (l : Bs) : ∀ x ∈ lev l, x.length ≤ l.length := by
  induction l with
  | nil => intro x hx; simp [lev] at hx; subst hx; exact Nat.le_refl _
  | cons c r ih =>
    by_cases h : c = 47
    · subst h
      rw [lev_slash]
      intro x hx
      rcases List.mem_cons.1 hx with rfl | hx
      · exact Nat.zero_le _
      · exact Nat.le_succ_of_le (ih x hx)
    · rw [lev_other _ h]
      intro x hx
      rcases prep_mem hx with ⟨z, hz, rfl⟩ | hx | ⟨h0, _⟩
      · have := ih z hz
        simp; omega
      · exact Nat.le_succ_of_le (ih x hx)
      · exact absurd h0 (lev_ne r)
theorem lev_get_size {l : Bs} {k : Nat} {x : Bs} (h : (lev l)[k]? = some x) : x.length ≤ l.length := lev_size l x (List.mem_of_getElem? h)
theorem lv_g {x : Bs} {l : Bool} (h : has 35 x = true) (hl : (x == [35]) = false) : lvOK x l = false := by
  unfold lvOK; rw [h, hl]; simp
theorem lv_h {x : Bs} {l : Bool} (h : has 43 x = true) (hl : (x == [43]) = false) : lvOK x l = false := by
  unfold lvOK; rw [h, hl]; simp
end Go.Proofs.YtenoaonlngndpaaDoor.Pl

/- Plain facts for the walks of Match; no program in sight. -/
namespace Go.Proofs.YtenoaonlngndpaaDoor.Pl
open Go

theorem filtC_ok {s : ByteArray} (h : filtB s = true) : filtC s = 0 := by unfold filtC; rw [h]; rfl
theorem filtC_bad {s : ByteArray} (h : filtB s = false) : filtC s = 143 := by unfold filtC; rw [h]; rfl
theorem nameC_ok {s : ByteArray} (h : nameB s = true) : nameC s = 0 := by unfold nameC; rw [h]; rfl
theorem nameC_bad {s : ByteArray} (h : nameB s = false) : nameC s = 144 := by unfold nameC; rw [h]; rfl
theorem filt_szd2 {s : ByteArray} (h : filtB s = true) : szd s = true ∧ fok (lev s.data.toList) = true := by
  unfold filtB at h; simpa using h
theorem name_szd {s : ByteArray} (h : nameB s = true) : szd s = true := by
  unfold nameB at h
  simp only [Bool.and_eq_true] at h
  exact h.1
theorem mt_filt {F N : ByteArray} (h : filtB F = false) : mtB F N = false := by unfold mtB; rw [h]; rfl
theorem mt_name {F N : ByteArray} (h : nameB N = false) : mtB F N = false := other_match h
theorem mt_dol {F N : ByteArray} (h : dol F.data.toList N.data.toList = true) : mtB F N = false := by unfold mtB; rw [h]; simp
theorem mt_lev {F N : ByteArray} (h1 : filtB F = true) (h2 : nameB N = true) (h3 : dol F.data.toList N.data.toList = false) : mtB F N = mtL (lev F.data.toList) (lev N.data.toList) := by
  unfold mtB; rw [h1, h2, h3]; rfl
theorem head_at (s : ByteArray) (h : 0 < s.size) : s.data.toList.head? = some s[0] := by
  rw [List.head?_eq_getElem?]
  exact Lib.data_getElem? s 0 h
/-- The first bytes, in numbers. -/
theorem dol_at (F N : ByteArray) (hF : 0 < F.size) (hN : 0 < N.size) : dol F.data.toList N.data.toList = (((N[0].toNat : Int) == 36) && (((F[0].toNat : Int) == 43) || ((F[0].toNat : Int) == 35))) := by
  have e : ∀ (b : UInt8) (c : UInt8) (x : Int), x = (c.toNat : Int) → (some b == some c) = ((b.toNat : Int) == x) := by
    intro b c x hx
    rw [Bool.eq_iff_iff]
    simp only [beq_iff_eq, Option.some.injEq, hx]
    constructor
    · intro h; rw [h]
    · intro h; exact UInt8.toNat_inj.1 (by omega)
  unfold dol
  rw [head_at F hF, head_at N hN, e _ 36 36 rfl, e _ 43 43 rfl, e _ 35 35 rfl]
/-- The first byte, as a string. -/
theorem head_one (F : ByteArray) (hF : 0 < F.size) (c : UInt8) (x : Int) (hx : x = (c.toNat : Int)) : ((F.extract 0 1).toList == [c]) = ((F[0].toNat : Int) == x) := by
  have h1 : (F.extract 0 1).toList = [F[0]] := by
    rw [ByteArray.toList_eq, Lib.extract_data]
    have := head_at F hF
    cases hd : F.data.toList with
    | nil => rw [hd] at this; simp at this
    | cons a r =>
      rw [hd] at this
      simp at this
      rw [← this]
      rfl
  rw [h1, Bool.eq_iff_iff]
  simp only [beq_iff_eq, List.cons.injEq, and_true, hx]
  constructor
  · intro h; rw [h]
  · intro h; exact UInt8.toNat_inj.1 (by omega)
theorem last_at {L : List Bs} {x : Bs} {n : Nat} (hn : L.length = n + 1) (h : L[n]? = some x) : allB L = (x == [35]) := by
  unfold allB
  rw [List.getLast?_eq_getElem?, hn]
  show (L[n]? == some [35]) = _
  rw [h]
  rfl
theorem cutL_all {L : List Bs} (h : allB L = true) : cutL L = L.dropLast := by unfold cutL; rw [h]; rfl
theorem cutL_not {L : List Bs} (h : allB L = false) : cutL L = L := by unfold cutL; rw [h]; rfl
end Go.Proofs.YtenoaonlngndpaaDoor.Pl

/- Plain facts about rules: what may be one, what it makes of a topic; no program in sight. -/
namespace Go.Proofs.YtenoaonlngndpaaDoor.Pl
open Go

/-- A rule. -/
structure Rl where
  pat : ByteArray
  dir : Int
  qos : Int
  loc : ByteArray
  rem : ByteArray
/-- Its value. -/
def ruV (r : Rl) : Value := .agg #[.string r.pat, .int .i64 r.dir, .int .i64 r.qos, .string r.loc, .string r.rem]
/-- Its cells. -/
def ruC (r : Rl) : Array Value := #[.string r.pat, .int .i64 r.dir, .int .i64 r.qos, .string r.loc, .string r.rem]
/-- What a machine can hold of it. -/
def Rl.fits (r : Rl) : Prop := r.pat.size ≤ 140737488351232 ∧ r.loc.size ≤ 140737488351232 ∧ r.rem.size ≤ 140737488351232 ∧ -9223372036854775808 ≤ r.dir ∧ r.dir ≤ 9223372036854775807 ∧ -9223372036854775808 ≤ r.qos ∧ r.qos ≤ 9223372036854775807

def pre (s : ByteArray) : Bool := decide (s.size = 0) || nameB s
def inC (d q : Int) : Int := if d < 0 ∨ 2 < d then 128 else if q < 0 ∨ 2 < q then 155 else 0
def ckR (r : Rl) : Int := if filtB r.pat then (if pre r.loc && pre r.rem then inC r.dir r.qos else 144) else 143
theorem inC_cases (d q : Int) : (d < 0 ∧ inC d q = 128) ∨ (0 ≤ d ∧ 2 < d ∧ inC d q = 128) ∨ (0 ≤ d ∧ d ≤ 2 ∧ q < 0 ∧ inC d q = 155) ∨ (0 ≤ d ∧ d ≤ 2 ∧ 0 ≤ q ∧ 2 < q ∧ inC d q = 155) ∨ (0 ≤ d ∧ d ≤ 2 ∧ 0 ≤ q ∧ q ≤ 2 ∧ inC d q = 0) := by
  unfold inC
  by_cases h1 : d < 0
  · exact .inl ⟨h1, if_pos (.inl h1)⟩
  · by_cases h2 : 2 < d
    · exact .inr (.inl ⟨by omega, h2, if_pos (.inr h2)⟩)
    · rw [if_neg (by omega)]
      by_cases h3 : q < 0
      · exact .inr (.inr (.inl ⟨by omega, by omega, h3, if_pos (.inl h3)⟩))
      · by_cases h4 : 2 < q
        · exact .inr (.inr (.inr (.inl ⟨by omega, by omega, by omega, h4, if_pos (.inr h4)⟩)))
        · exact .inr (.inr (.inr (.inr ⟨by omega, by omega, by omega, by omega, if_neg (by omega)⟩)))
theorem ckR_bd (r : Rl) : 0 ≤ ckR r ∧ ckR r ≤ 255 := by
  have h := inC_cases r.dir r.qos
  unfold ckR
  split
  · split
    · omega
    · decide
  · decide

/-- Does the topic begin with the prefix? -/
def hp (n f : ByteArray) : Bool := Lib.hasPrefix n.data.toList f.data.toList
def rst (n f : ByteArray) : ByteArray := n.extract f.size n.size
theorem hp_size {n f : ByteArray} (h : hp n f = true) : f.size ≤ n.size := by
  unfold hp Lib.hasPrefix at h
  have h2 := (List.isPrefixOf_iff_prefix.1 h).length_le
  exact h2
theorem trim_hit {n f : ByteArray} (h : hp n f = true) : (⟨(Lib.trimPrefix n.data.toList f.data.toList).toArray⟩ : ByteArray) = rst n f := by
  unfold hp at h
  unfold Lib.trimPrefix
  rw [if_pos h]
  apply ByteArray.ext
  apply Array.toList_inj.1
  unfold rst
  rw [Lib.extract_to_end]
  rfl
theorem hp_take (n f : ByteArray) : ((n.extract 0 f.size).toList == f.toList) = hp n f := by
  unfold hp Lib.hasPrefix
  rw [ByteArray.toList_eq, ByteArray.toList_eq, Lib.extract_data, Bool.eq_iff_iff, beq_iff_eq, List.isPrefixOf_iff_prefix, List.drop_zero, Nat.sub_zero]
  have hl : f.data.toList.length = f.size := rfl
  rw [← hl]
  constructor
  · intro e; rw [← e]; exact List.take_prefix _ _
  · intro e; exact (List.prefix_iff_eq_take.1 e).symm
theorem hp_short {n f : ByteArray} (h : n.size < f.size) : hp n f = false := by
  cases hh : hp n f
  · rfl
  · have := hp_size hh; omega
/-- The topic that a rule makes of another one. -/
def trn (r : Rl) (n f t : ByteArray) : ByteArray × Bool :=
  if hp n f && (decide (ckR r = 0) && (mtB r.pat (rst n f) && (nameB n && nameB (t ++ rst n f)))) then (t ++ rst n f, true) else (⟨#[]⟩, false)
def toRem (r : Rl) (n : ByteArray) : ByteArray × Bool := if r.dir = 1 then (⟨#[]⟩, false) else trn r n r.loc r.rem
def toLoc (r : Rl) (n : ByteArray) : ByteArray × Bool := if r.dir = 0 then (⟨#[]⟩, false) else trn r n r.rem r.loc
theorem ck_dir {r : Rl} (h : ckR r = 0) : 0 ≤ r.dir ∧ r.dir ≤ 2 := by
  have hc := inC_cases r.dir r.qos
  unfold ckR at h
  split at h
  · split at h
    · omega
    · exact absurd h (by decide)
  · exact absurd h (by decide)
theorem trn_ck {r : Rl} {n f t : ByteArray} (h : ckR r ≠ 0) : trn r n f t = (⟨#[]⟩, false) := by
  unfold trn; rw [decide_eq_false h]; simp
/-- The document's own way round the directions. -/
theorem toRem_ref (r : Rl) (n : ByteArray) : toRem r n = if r.dir ≠ 0 ∧ r.dir ≠ 2 then (⟨#[]⟩, false) else trn r n r.loc r.rem := by
  unfold toRem
  by_cases h : r.dir = 1
  · rw [if_pos h, if_pos (by omega)]
  · rw [if_neg h]
    by_cases h2 : r.dir ≠ 0 ∧ r.dir ≠ 2
    · rw [if_pos h2]
      exact trn_ck fun hc => by have := ck_dir hc; omega
    · rw [if_neg h2]
theorem toLoc_ref (r : Rl) (n : ByteArray) : toLoc r n = if r.dir ≠ 1 ∧ r.dir ≠ 2 then (⟨#[]⟩, false) else trn r n r.rem r.loc := by
  unfold toLoc
  by_cases h : r.dir = 0
  · rw [if_pos h, if_pos (by omega)]
  · rw [if_neg h]
    by_cases h2 : r.dir ≠ 1 ∧ r.dir ≠ 2
    · rw [if_pos h2]
      exact trn_ck fun hc => by have := ck_dir hc; omega
    · rw [if_neg h2]
/-- A rule, seen from the other side. -/
def flp (r : Rl) : Rl := { r with dir := if r.dir = 0 then 1 else if r.dir = 1 then 0 else r.dir, loc := r.rem, rem := r.loc }
theorem flp_ref (r : Rl) : (flp r).dir = if r.dir = 0 ∨ r.dir = 1 then 1 - r.dir else r.dir := by
  show (if r.dir = 0 then 1 else if r.dir = 1 then 0 else r.dir) = _
  split
  · rename_i h; rw [if_pos (Or.inl h), h]; rfl
  · split
    · rename_i h; rw [if_pos (Or.inr h), h]; rfl
    · rw [if_neg (by omega)]
end Go.Proofs.YtenoaonlngndpaaDoor.Pl

/- Where a message comes to, over adverts: plain. -/
namespace Go.Proofs.YtenoaonlngndpaaDoor.Pl
set_option linter.unusedVariables false
open Go

structure Lk where
  peer : Int
  rule : Rl
structure Ad where
  owner : Int
  version : Int
  fs : List ByteArray
  ls : List Lk
structure Plc where
  br : Int
  tp : ByteArray
  hp : Int
/-- What is known of each broker. -/
abbrev Kb := Int → Option Ad
def lks (K : Kb) (b : Int) : List Lk := match K b with
  | some a => a.ls
  | none => []
def fls (K : Kb) (b : Int) : List ByteArray := match K b with
  | some a => a.fs
  | none => []
def metP (out : List Plc) (b : Int) (t : ByteArray) : Bool := out.any fun q => decide (q.br = b) && decide (q.tp = t)
def plLinks (p : Plc) : List Lk → List Plc → List Plc × Bool
  | [], out => (out, true)
  | l :: r, out =>
    if (toRem l.rule p.tp).2 = false ∨ metP out l.peer (toRem l.rule p.tp).1 = true then plLinks p r out
    else if 256 ≤ out.length then (out, false)
    else plLinks p r (out ++ [⟨l.peer, (toRem l.rule p.tp).1, p.hp + 1⟩])
def plLoop (K : Kb) (h : Int) : Nat → Nat → List Plc → List Plc × Bool
  | 0, _, out => (out, true)
  | f + 1, i, out => match out[i]? with
    | none => (out, true)
    | some p =>
      if p.hp = h then plLoop K h f (i + 1) out
      else if (plLinks p (lks K p.br) out).2 = true then plLoop K h f (i + 1) (plLinks p (lks K p.br) out).1
      else ((plLinks p (lks K p.br) out).1, false)
def plOk (at' : Int) (name : ByteArray) (h : Int) : Bool := nameB name && (decide (0 ≤ at') && (decide (at' < 8) && decide (0 ≤ h)))
def places (K : Kb) (at' : Int) (name : ByteArray) (h : Int) : List Plc × Bool :=
  if plOk at' name h = true then plLoop K (min h 32) 257 0 [⟨at', name, 0⟩] else ([], true)
def wantAt (K : Kb) (p : Plc) : Bool := match K p.br with
  | none => true
  | some a => a.fs.any fun f => mtB f p.tp
def wants (K : Kb) (at' : Int) (name : ByteArray) (h : Int) : Bool := !(places K at' name h).2 || (places K at' name h).1.any (wantAt K)
/-- May there be such an advert? -/
def goodA (a : Ad) : Bool :=
  decide (0 ≤ a.owner) && decide (a.owner < 8) && decide (1 ≤ a.version) && decide (a.version ≤ 9007199254740992) && decide (a.fs.length ≤ 64) && decide (a.ls.length ≤ 16) && a.fs.all filtB && a.ls.all fun l => decide (0 ≤ l.peer) && decide (l.peer < 8) && !decide (l.peer = a.owner) && decide (ckR l.rule = 0)
def verOf (K : Kb) (b : Int) : Int := match K b with
  | some a => a.version
  | none => 0
def learn (K : Kb) (a : Ad) : Kb := if goodA a = true ∧ verOf K a.owner < a.version then fun b => if b = a.owner then some a else K b else K
def madeA (x : Ad) : Ad := { x with fs := x.fs.take 8, ls := x.ls.take 20 }
def baseK (l : List Ad) : Kb := (l.take 12).foldl (fun K x => learn K (madeA x)) fun _ => none

/-! ### the laws of 'places' -/
theorem metP_true {out : List Plc} {b : Int} {t : ByteArray} : metP out b t = true ↔ ∃ q ∈ out, q.br = b ∧ q.tp = t := by
  unfold metP
  rw [List.any_eq_true]
  simp
/-- Each place but the first comes from an earlier one. -/
def FromOne (K : Kb) (out : List Plc) (k : Nat) (y : Plc) : Prop := ∃ (j : Nat) (z : Plc), j < k ∧ out[j]? = some z ∧ ∃ l ∈ lks K z.br, (toRem l.rule z.tp).2 = true ∧ l.peer = y.br ∧ (toRem l.rule z.tp).1 = y.tp ∧ z.hp + 1 = y.hp
structure PInv (K : Kb) (at' : Int) (name : ByteArray) (h : Int) (out : List Plc) : Prop where
  len : out.length ≤ 256
  first : out[0]? = some ⟨at', name, 0⟩
  one : ∀ (i j : Nat) (y z : Plc), i < j → out[i]? = some y → out[j]? = some z → ¬ (y.br = z.br ∧ y.tp = z.tp)
  up : ∀ (i j : Nat) (y z : Plc), i ≤ j → out[i]? = some y → out[j]? = some z → y.hp ≤ z.hp
  bd : ∀ y ∈ out, 0 ≤ y.hp ∧ y.hp ≤ h
  src : ∀ (k : Nat) (y : Plc), 0 < k → out[k]? = some y → FromOne K out k y
theorem getElem?_snoc {α : Type} {l : List α} {x y : α} {i : Nat} (h : (l ++ [x])[i]? = some y) : l[i]? = some y ∨ (i = l.length ∧ y = x) := by
  rcases Nat.lt_or_ge i l.length with c | c
  · rw [List.getElem?_append_left c] at h
    exact .inl h
  · rw [List.getElem?_append_right c] at h
    cases hj : i - l.length with
    | zero => rw [hj] at h; simp at h; exact .inr ⟨by omega, h.symm⟩
    | succ n => rw [hj] at h; simp at h
theorem getElem?_lt {α : Type} {l : List α} {y : α} {i : Nat} (h : l[i]? = some y) : i < l.length := (List.getElem?_eq_some_iff.1 h).1
/-- A place more. -/
theorem PInv.snoc {K : Kb} {at' : Int} {name : ByteArray} {h : Int} {out : List Plc} {p : Plc} {i : Nat} {l : Lk} (H : PInv K at' name h out) (hp : out[i]? = some p) (hh : p.hp < h) (hl : l ∈ lks K p.br) (ho : (toRem l.rule p.tp).2 = true)
    (hm : metP out l.peer (toRem l.rule p.tp).1 = false) (hlen : out.length < 256) (hup : ∀ y ∈ out, y.hp ≤ p.hp + 1) : PInv K at' name h (out ++ [⟨l.peer, (toRem l.rule p.tp).1, p.hp + 1⟩]) := by
  have hi := getElem?_lt hp
  have hp0 := H.bd p (List.mem_of_getElem? hp)
  refine ⟨by simp; omega, ?_, ?_, ?_, ?_, ?_⟩
  · rw [List.getElem?_append_left (by omega)]; exact H.first
  · intro a b y z hab hy hz e
    rcases getElem?_snoc hz with hz | ⟨hb, rfl⟩
    · have hlt := getElem?_lt hz
      rw [List.getElem?_append_left (by omega)] at hy
      exact H.one a b y z hab hy hz e
    · rw [List.getElem?_append_left (by omega)] at hy
      have : metP out l.peer (toRem l.rule p.tp).1 = true := metP_true.2 ⟨y, List.mem_of_getElem? hy, e.1, e.2⟩
      rw [hm] at this
      cases this
  · intro a b y z hab hy hz
    rcases getElem?_snoc hz with hz | ⟨hb, rfl⟩
    · have hlt := getElem?_lt hz
      rw [List.getElem?_append_left (by omega)] at hy
      exact H.up a b y z hab hy hz
    · rcases getElem?_snoc hy with hy | ⟨_, rfl⟩
      · exact hup y (List.mem_of_getElem? hy)
      · exact Int.le_refl _
  · intro y hy
    rcases List.mem_append.1 hy with hy | hy
    · exact H.bd y hy
    · obtain rfl := List.mem_singleton.1 hy
      simp only
      omega
  · intro k y hk hy
    rcases getElem?_snoc hy with hy | ⟨hk', rfl⟩
    · obtain ⟨j, z, h1, h2, h3⟩ := H.src k y hk hy
      exact ⟨j, z, h1, by rw [List.getElem?_append_left (getElem?_lt h2)]; exact h2, h3⟩
    · exact ⟨i, p, by omega, by rw [List.getElem?_append_left hi]; exact hp, l, hl, ho, rfl, rfl, rfl⟩
/-- What a place's rules leave. -/
structure LInv (K : Kb) (p : Plc) (ls : List Lk) (out out' : List Plc) : Prop where
  ext : ∃ t, out' = out ++ t
  up : ∀ y ∈ out', y.hp ≤ p.hp + 1
  met : ∀ l ∈ ls, (toRem l.rule p.tp).2 = true → metP out' l.peer (toRem l.rule p.tp).1 = true
theorem plLinks_inv {K : Kb} {at' : Int} {name : ByteArray} {h : Int} {p : Plc} {i : Nat} : ∀ (ls : List Lk) (out : List Plc), PInv K at' name h out → out[i]? = some p → p.hp < h → (∀ l ∈ ls, l ∈ lks K p.br) → (∀ y ∈ out, y.hp ≤ p.hp + 1) →
    PInv K at' name h (plLinks p ls out).1 ∧ (∃ t, (plLinks p ls out).1 = out ++ t) ∧ (∀ y ∈ (plLinks p ls out).1, y.hp ≤ p.hp + 1) ∧ ((plLinks p ls out).2 = true → ∀ l ∈ ls, (toRem l.rule p.tp).2 = true → metP (plLinks p ls out).1 l.peer (toRem l.rule p.tp).1 = true)
  | [], out, H, hp, hh, hl, hu => ⟨H, ⟨[], by simp [plLinks]⟩, hu, fun _ l hl => by cases hl⟩
  | l :: r, out, H, hp, hh, hl, hu => by
    unfold plLinks
    have hr : ∀ x ∈ r, x ∈ lks K p.br := fun x hx => hl x (List.mem_cons_of_mem _ hx)
    split
    · rename_i hc
      obtain ⟨q1, ⟨t, q2⟩, q3, q4⟩ := plLinks_inv r out H hp hh hr hu
      refine ⟨q1, ⟨t, q2⟩, q3, fun e x hx ho => ?_⟩
      rcases List.mem_cons.1 hx with rfl | hx
      · rcases hc with hc | hc
        · rw [ho] at hc; cases hc
        · obtain ⟨q, m1, m2⟩ := metP_true.1 hc
          exact metP_true.2 ⟨q, by rw [q2]; exact List.mem_append_left _ m1, m2⟩
      · exact q4 e x hx ho
    · rename_i hc
      split
      · exact ⟨H, ⟨[], by simp⟩, hu, fun e => by cases e⟩
      · rename_i hn
        have ho : (toRem l.rule p.tp).2 = true := by
          cases e : (toRem l.rule p.tp).2 with
          | true => rfl
          | false => exact absurd (.inl e) hc
        have hm : metP out l.peer (toRem l.rule p.tp).1 = false := by
          cases e : metP out l.peer (toRem l.rule p.tp).1 with
          | false => rfl
          | true => exact absurd (.inr e) hc
        have H' := H.snoc hp hh (hl l (List.mem_cons_self ..)) ho hm (by omega) hu
        have hu' : ∀ y ∈ out ++ [⟨l.peer, (toRem l.rule p.tp).1, p.hp + 1⟩], y.hp ≤ p.hp + 1 := by
          intro y hy
          rcases List.mem_append.1 hy with hy | hy
          · exact hu y hy
          · obtain rfl := List.mem_singleton.1 hy; exact Int.le_refl _
        obtain ⟨q1, ⟨t, q2⟩, q3, q4⟩ := plLinks_inv r _ H' (by rw [List.getElem?_append_left (getElem?_lt hp)]; exact hp) hh hr hu'
        refine ⟨q1, ⟨_ :: t, by rw [q2, List.append_assoc]; rfl⟩, q3, fun e x hx ho => ?_⟩
        rcases List.mem_cons.1 hx with rfl | hx
        · exact metP_true.2 ⟨_, by rw [q2]; exact List.mem_append_left _ (List.mem_append_right _ (List.mem_singleton.2 rfl)), rfl, rfl⟩
        · exact q4 e x hx ho
/-- All that a place before i hands on to is there. -/
def Closed (K : Kb) (h : Int) (out : List Plc) (i : Nat) : Prop := ∀ (j : Nat) (p : Plc), j < i → out[j]? = some p → p.hp < h → ∀ l ∈ lks K p.br, (toRem l.rule p.tp).2 = true → ∃ q ∈ out, q.br = l.peer ∧ q.tp = (toRem l.rule p.tp).1 ∧ q.hp ≤ p.hp + 1
theorem plLoop_inv {K : Kb} {at' : Int} {name : ByteArray} {h : Int} : ∀ (f i : Nat) (out : List Plc), PInv K at' name h out → Closed K h out i → (∀ p, out[i]? = some p → ∀ y ∈ out, y.hp ≤ p.hp + 1) → 257 ≤ f + i → i ≤ out.length →
    PInv K at' name h (plLoop K h f i out).1 ∧ (∃ t, (plLoop K h f i out).1 = out ++ t) ∧ ((plLoop K h f i out).2 = true → Closed K h (plLoop K h f i out).1 (plLoop K h f i out).1.length)
  | 0, i, out, H, hc, hu, hf, hi => by have := H.len; omega
  | f + 1, i, out, H, hc, hu, hf, hi => by
    unfold plLoop
    split
    · rename_i hn
      refine ⟨H, ⟨[], by simp⟩, fun _ => ?_⟩
      have : i = out.length := by
        have := List.getElem?_eq_none_iff.1 hn
        omega
      subst this
      exact hc
    · rename_i p hp
      have hil := getElem?_lt hp
      have hpb := H.bd p (List.mem_of_getElem? hp)
      split
      · rename_i he
        refine plLoop_inv f (i + 1) out H ?_ ?_ (by omega) hil
        · intro j q hj hq hlt
          rcases Nat.lt_or_ge j i with c | c
          · exact hc j q c hq hlt
          · obtain rfl : j = i := by omega
            rw [hp] at hq; cases hq; omega
        · intro q hq y hy
          have := H.up i (i + 1) p q (by omega) hp hq
          have := hu p hp y hy
          omega
      · rename_i he
        have hlt : p.hp < h := by omega
        obtain ⟨q1, ⟨t, q2⟩, q3, q4⟩ := plLinks_inv (lks K p.br) out H hp hlt (fun _ h => h) (hu p hp)
        split
        · rename_i ht
          have hp' : (plLinks p (lks K p.br) out).1[i]? = some p := by rw [q2, List.getElem?_append_left hil]; exact hp
          obtain ⟨r1, ⟨t', r2⟩, r3⟩ := plLoop_inv f (i + 1) (plLinks p (lks K p.br) out).1 q1 (by
            intro j q hj hq hql l hl ho
            rcases Nat.lt_or_ge j i with c | c
            · have hjl : out[j]? = some q := by rw [q2, List.getElem?_append_left (by omega)] at hq; exact hq
              obtain ⟨x, x1, x2⟩ := hc j q c hjl hql l hl ho
              exact ⟨x, by rw [q2]; exact List.mem_append_left _ x1, x2⟩
            · obtain rfl : j = i := by omega
              rw [hp'] at hq; cases hq
              obtain ⟨x, x1, x2, x3⟩ := metP_true.1 (q4 ht l hl ho)
              exact ⟨x, x1, x2, x3, q3 x x1⟩) (by
            intro q hq y hy
            have := q1.up i (i + 1) p q (by omega) hp' hq
            have := q3 y hy
            omega) (by omega) (by rw [q2, List.length_append]; omega)
          exact ⟨r1, ⟨t ++ t', by rw [r2, q2, List.append_assoc]⟩, r3⟩
        · exact ⟨q1, ⟨t, q2⟩, fun e => by cases e⟩
theorem PInv.start (K : Kb) (at' : Int) (name : ByteArray) {h : Int} (hh : 0 ≤ h) : PInv K at' name h [⟨at', name, 0⟩] := by
  refine ⟨by simp, rfl, ?_, ?_, ?_, ?_⟩
  · intro i j y z hij hy hz
    have := getElem?_lt hz
    simp at this
    omega
  · intro i j y z hij hy hz
    have h1 := getElem?_lt hy
    have h2 := getElem?_lt hz
    simp at h1 h2
    subst h1 h2
    simp at hy hz
    subst hy hz
    exact Int.le_refl _
  · intro y hy
    obtain rfl := List.mem_singleton.1 hy
    exact ⟨Int.le_refl _, hh⟩
  · intro k y hk hy
    have := getElem?_lt hy
    simp at this
    omega
theorem closed_start (K : Kb) (h : Int) (out : List Plc) : Closed K h out 0 := fun j p hj => by omega
theorem up_start (at' : Int) (name : ByteArray) : ∀ p, ([⟨at', name, 0⟩] : List Plc)[0]? = some p → ∀ y ∈ ([⟨at', name, 0⟩] : List Plc), y.hp ≤ p.hp + 1 := by
  intro p hp y hy
  obtain rfl := List.mem_singleton.1 hy
  simp at hp
  subst hp
  simp
theorem places_inv {K : Kb} {at' : Int} {name : ByteArray} {h : Int} (ho : plOk at' name h = true) (hh : 0 ≤ min h 32) :
    PInv K at' name (min h 32) (places K at' name h).1 ∧ ((places K at' name h).2 = true → Closed K (min h 32) (places K at' name h).1 (places K at' name h).1.length) := by
  unfold places
  rw [if_pos ho]
  obtain ⟨h1, _, h3⟩ := plLoop_inv 257 0 _ (PInv.start K at' name hh) (closed_start K _ _) (up_start at' name) (by omega) (by simp)
  exact ⟨h1, h3⟩
/-- A hop more: the same at a stop; else nothing is lost. -/
theorem plLoop_ext (K : Kb) (h : Int) : ∀ (f i : Nat) (out : List Plc), ∃ t, (plLoop K h f i out).1 = out ++ t
  | 0, i, out => ⟨[], by simp [plLoop]⟩
  | f + 1, i, out => by
    unfold plLoop
    split
    · exact ⟨[], by simp⟩
    · rename_i p hp
      have hl : ∀ (ls : List Lk) (out : List Plc), ∃ t, (plLinks p ls out).1 = out ++ t := by
        intro ls
        induction ls with
        | nil => intro out; exact ⟨[], by simp [plLinks]⟩
        | cons l r ih =>
          intro out
          unfold plLinks
          split
          · exact ih out
          · split
            · exact ⟨[], by simp⟩
            · obtain ⟨t, ht⟩ := ih (out ++ [⟨l.peer, (toRem l.rule p.tp).1, p.hp + 1⟩])
              exact ⟨_ :: t, by rw [ht, List.append_assoc]; rfl⟩
      split
      · exact plLoop_ext K h f (i + 1) out
      · obtain ⟨t, ht⟩ := hl (lks K p.br) out
        split
        · obtain ⟨t', ht'⟩ := plLoop_ext K h f (i + 1) (plLinks p (lks K p.br) out).1
          exact ⟨t ++ t', by rw [ht', ht, List.append_assoc]⟩
        · exact ⟨t, ht⟩
theorem plLoop_full (K : Kb) (h : Int) : ∀ (f i : Nat) (out : List Plc), (∀ j p, i ≤ j → out[j]? = some p → p.hp = h) → plLoop K h f i out = (out, true)
  | 0, i, out, _ => rfl
  | f + 1, i, out, hs => by
    unfold plLoop
    split
    · rfl
    · rename_i p hp
      rw [if_pos (hs i p (Nat.le_refl _) hp)]
      exact plLoop_full K h f (i + 1) out (fun j q hj => hs j q (by omega))
theorem PInv.mono {K : Kb} {at' : Int} {name : ByteArray} {h h' : Int} {out : List Plc} (H : PInv K at' name h out) (hh : h ≤ h') : PInv K at' name h' out :=
  ⟨H.len, H.first, H.one, H.up, fun y hy => ⟨(H.bd y hy).1, Int.le_trans (H.bd y hy).2 hh⟩, H.src⟩
theorem plLoop_more {K : Kb} {at' : Int} {name : ByteArray} {h : Int} : ∀ (f i : Nat) (out : List Plc), PInv K at' name h out → (∀ p, out[i]? = some p → ∀ y ∈ out, y.hp ≤ p.hp + 1) →
    ((plLoop K h f i out).2 = false → plLoop K (h + 1) f i out = plLoop K h f i out) ∧ ∃ t, (plLoop K (h + 1) f i out).1 = (plLoop K h f i out).1 ++ t
  | 0, i, out, H, hu => ⟨fun e => (by cases e), ⟨[], by simp [plLoop]⟩⟩
  | f + 1, i, out, H, hu => by
    cases hp : out[i]? with
    | none =>
      have e1 : ∀ h', plLoop K h' (f + 1) i out = (out, true) := by intro h'; unfold plLoop; rw [hp]
      rw [e1, e1]
      exact ⟨fun e => rfl, ⟨[], by simp⟩⟩
    | some p =>
      have hpb := H.bd p (List.mem_of_getElem? hp)
      by_cases he : p.hp = h
      · have e0 : plLoop K h (f + 1) i out = (out, true) := plLoop_full K h (f + 1) i out (fun j q hj hq => by
          have := H.up i j p q hj hp hq
          have := (H.bd q (List.mem_of_getElem? hq)).2
          omega)
        rw [e0]
        exact ⟨fun e => (by cases e), plLoop_ext K (h + 1) (f + 1) i out⟩
      · have hlt : p.hp < h := by omega
        obtain ⟨q1, ⟨t, q2⟩, q3, q4⟩ := plLinks_inv (lks K p.br) out H hp hlt (fun _ h => h) (hu p hp)
        have hp' : (plLinks p (lks K p.br) out).1[i]? = some p := by rw [q2, List.getElem?_append_left (getElem?_lt hp)]; exact hp
        have e1 : ∀ h', p.hp ≠ h' → plLoop K h' (f + 1) i out = if (plLinks p (lks K p.br) out).2 = true then plLoop K h' f (i + 1) (plLinks p (lks K p.br) out).1 else ((plLinks p (lks K p.br) out).1, false) := by
          intro h' hne
          conv => lhs; unfold plLoop
          rw [hp]
          simp only [if_neg hne]
        rw [e1 h he, e1 (h + 1) (by omega)]
        by_cases ht : (plLinks p (lks K p.br) out).2 = true
        · rw [if_pos ht, if_pos ht]
          exact plLoop_more f (i + 1) _ q1 (by
            intro q hq y hy
            have := q1.up i (i + 1) p q (by omega) hp' hq
            have := q3 y hy
            omega)
        · rw [if_neg ht, if_neg ht]
          exact ⟨fun _ => rfl, ⟨[], by simp⟩⟩
theorem places_more {K : Kb} {at' : Int} {name : ByteArray} {h : Int} (h0 : 0 ≤ h) (h1 : h < 32) :
    ((places K at' name h).2 = false → (places K at' name (h + 1)).2 = false) ∧ ∃ t, (places K at' name (h + 1)).1 = (places K at' name h).1 ++ t := by
  have ho : plOk at' name (h + 1) = plOk at' name h := by
    unfold plOk
    rw [decide_eq_true (show 0 ≤ h + 1 from by omega), decide_eq_true h0]
  unfold places
  rw [ho]
  by_cases hk : plOk at' name h = true
  · rw [if_pos hk, if_pos hk, show min h 32 = h from by omega, show min (h + 1) 32 = h + 1 from by omega]
    obtain ⟨r1, r2⟩ := plLoop_more 257 0 _ (PInv.start K at' name h0) (up_start at' name)
    exact ⟨fun e => by rw [r1 e]; exact e, r2⟩
  · rw [if_neg hk, if_neg hk]
    exact ⟨fun e => (by cases e), ⟨[], by simp⟩⟩
end Go.Proofs.YtenoaonlngndpaaDoor.Pl

/- What the laws without the document's answer say of places: plain. -/
namespace Go.Proofs.YtenoaonlngndpaaDoor.Pl
set_option linter.unusedVariables false
open Go

/-- A row of rules has come so far. -/
def Reach (K : Kb) (at' : Int) (name : ByteArray) (h : Int) (b : Int) (t : ByteArray) (i : Int) : Prop := wants K at' name h = true ∨ ((places K at' name h).2 = true ∧ ∃ q ∈ (places K at' name h).1, q.br = b ∧ q.tp = t ∧ q.hp ≤ i)
theorem reach_start {K : Kb} {at' : Int} {name : ByteArray} {h : Int} (ho : plOk at' name h = true) (h0 : 0 ≤ h) : Reach K at' name h at' name 0 := by
  obtain ⟨H, _⟩ := places_inv (K := K) ho (show 0 ≤ min h 32 from by omega)
  cases e : (places K at' name h).2 with
  | false => exact .inl (by unfold wants; rw [e]; rfl)
  | true => exact .inr ⟨e, _, List.mem_of_getElem? H.first, rfl, rfl, Int.le_refl _⟩
theorem reach_step {K : Kb} {at' : Int} {name : ByteArray} {h b i : Int} {t : ByteArray} {l : Lk} (ho : plOk at' name h = true) (h0 : 0 ≤ h) (h1 : h ≤ 32) (hr : Reach K at' name h b t i) (hi : i < h) (hl : l ∈ lks K b) (hk : (toRem l.rule t).2 = true) :
    Reach K at' name h l.peer (toRem l.rule t).1 (i + 1) := by
  rcases hr with c | ⟨ha, q, hq, rfl, rfl, hh⟩
  · exact .inl c
  · obtain ⟨H, hc⟩ := places_inv (K := K) ho (show 0 ≤ min h 32 from by omega)
    rw [show min h 32 = h from by omega] at hc
    obtain ⟨j, hj⟩ := List.getElem?_of_mem hq
    obtain ⟨x, x1, x2, x3, x4⟩ := hc ha j q (getElem?_lt hj) hj (by omega) l hl hk
    exact .inr ⟨ha, x, x1, x2, x3, by omega⟩
theorem reach_want {K : Kb} {at' : Int} {name : ByteArray} {h b i : Int} {t : ByteArray} (hr : Reach K at' name h b t i) (hw : K b = none ∨ ∃ f ∈ fls K b, mtB f t = true) : wants K at' name h = true := by
  rcases hr with c | ⟨ha, q, hq, rfl, rfl, hh⟩
  · exact c
  · unfold wants
    rw [Bool.or_eq_true]
    right
    rw [List.any_eq_true]
    refine ⟨q, hq, ?_⟩
    unfold wantAt
    rcases hw with c | ⟨f, hf, hm⟩
    · rw [c]
    · unfold fls at hf
      cases hK : K q.br with
      | none => rfl
      | some a =>
        rw [hK] at hf
        simp only at hf ⊢
        exact List.any_eq_true.2 ⟨f, hf, hm⟩
end Go.Proofs.YtenoaonlngndpaaDoor.Pl

/- Worlds in which named blocks alone have turned; a block known whole. Over whatever program. -/
namespace Go.Proofs.YtenoaonlngndpaaDoor
set_option linter.unusedVariables false
open Go.RowKit

/-- Of what was there, only blocks in S have turned. -/
structure Mod (S : Nat → Prop) (w w' : World) : Prop where
  os : w'.os = w.os
  tape : w'.tape = w.tape
  output : w'.output = w.output
  size : w.heap.size ≤ w'.heap.size
  block : ∀ k, k < w.heap.size → ¬ S k → w'.heap[k]? = w.heap[k]?
theorem Mod.refl (S : Nat → Prop) (w : World) : Mod S w w := ⟨rfl, rfl, rfl, Nat.le_refl _, fun _ _ _ => rfl⟩
theorem Mod.trans {S : Nat → Prop} {a b c : World} (h : Mod S a b) (k : Mod S b c) : Mod S a c :=
  ⟨k.os.trans h.os, k.tape.trans h.tape, k.output.trans h.output, Nat.le_trans h.size k.size, fun i hi hs => (k.block i (Nat.lt_of_lt_of_le hi h.size) hs).trans (h.block i hi hs)⟩
theorem Mod.weaken {S S' : Nat → Prop} {a b : World} (h : Mod S a b) (hs : ∀ k, k < a.heap.size → S k → S' k) : Mod S' a b :=
  ⟨h.os, h.tape, h.output, h.size, fun i hi hn => h.block i hi (fun c => hn (hs i hi c))⟩
/-- What turned later in blocks that are new counts for nothing. -/
theorem Mod.then {S S' : Nat → Prop} {a b c : World} (h : Mod S a b) (k : Mod S' b c) (hs : ∀ i, i < a.heap.size → S' i → S i) : Mod S a c :=
  ⟨k.os.trans h.os, k.tape.trans h.tape, k.output.trans h.output, Nat.le_trans h.size k.size, fun i hi hn => (k.block i (Nat.lt_of_lt_of_le hi h.size) (fun c => hn (hs i hi c))).trans (h.block i hi hn)⟩
theorem Mod.of_below {S : Nat → Prop} {a b : World} (h : Below a.heap.size a b) : Mod S a b := ⟨h.os, h.tape, h.output, h.size, fun i hi _ => h.block i hi⟩
theorem Mod.below {S : Nat → Prop} {a b : World} {B : Nat} (h : Mod S a b) (hB : B ≤ a.heap.size) (hs : ∀ k, S k → B ≤ k) : Below B a b := ⟨h.os, h.tape, h.output, h.size, fun i hi => h.block i (Nat.lt_of_lt_of_le hi hB) (fun c => Nat.not_lt.2 (hs i c) hi)⟩
theorem Mod.add {S : Nat → Prop} {a b c : World} (h : Mod S a b) (k : Below b.heap.size b c) : Mod S a c := h.trans (Mod.of_below k)
theorem Mod.drew {S : Nat → Prop} {a b : World} (h : Mod S a b) : Mod S a b.drew := h.trans ⟨rfl, rfl, rfl, Nat.le_refl _, fun _ _ _ => rfl⟩
theorem Mod.alloc {S : Nat → Prop} {a b : World} (h : Mod S a b) (o : Obj) : Mod S a (b.alloc o) := h.add ((Below.refl _ _).alloc (Nat.le_refl _) o)
theorem Mod.setCell {S : Nat → Prop} {a b : World} (h : Mod S a b) {p : Addr} (hp : S p.block ∨ a.heap.size ≤ p.block) (u : Value) : Mod S a (b.setCell p u) :=
  ⟨h.os, h.tape, h.output, by simpa [World.setCell] using h.size, fun i hi hn => (Below.heap_setCell _ _ _ _ (fun e => by subst e; rcases hp with c | c; exact hn c; omega)).trans (h.block i hi hn)⟩
theorem Mod.grown {S : Nat → Prop} {a b c : World} {row : Option Nat} (h : Mod S a b) (hg : b.grownBy c row) (hr : ∀ k, row = some k → S k ∨ a.heap.size ≤ k) : Mod S a c :=
  ⟨hg.os.trans h.os, hg.tape.trans h.tape, hg.output.trans h.output, Nat.le_trans h.size hg.size, fun i hi hn => (hg.block i (Nat.lt_of_lt_of_le hi h.size) (fun e => by rcases hr i e.symm with c | c; exact hn c; omega)).trans (h.block i hi hn)⟩
theorem Mod.cell {S : Nat → Prop} {w w' : World} (h : Mod S w w') {p : Addr} (hp : p.block < w.heap.size) (hs : ¬ S p.block) : w'.cell? p = w.cell? p := World.cell?_of_block (w := w) (h.block p.block hp hs)

/-- A block of cells, known whole. -/
def Blk (w : World) (R : Nat) (cs : Array Value) (T : TypeId) : Prop := w.heap[R]? = some (.cells cs T (0, 0))
theorem Blk.lt {w : World} {R : Nat} {cs : Array Value} {T : TypeId} (h : Blk w R cs T) : R < w.heap.size := by
  rcases Nat.lt_or_ge R w.heap.size with c | c
  · exact c
  · unfold Blk at h; simp [Array.getElem?_eq_none c] at h
theorem Blk.cell {w : World} {R : Nat} {cs : Array Value} {T : TypeId} (h : Blk w R cs T) (j : Nat) : w.cell? ⟨R, j, none⟩ = cs[j]? := Lib.cell_of_heap h j
theorem Blk.frozen {w : World} {R : Nat} {cs : Array Value} {T : TypeId} (h : Blk w R cs T) (j : Nat) : w.frozen? ⟨R, j, none⟩ = false := Lib.frozen_of_heap h j
theorem Blk.new (w : World) (cs : Array Value) (T : TypeId) : Blk (w.alloc (.cells cs T)) w.heap.size cs T := by
  unfold Blk
  show (w.heap.push (.cells cs T))[w.heap.size]? = _
  rw [Array.getElem?_push, if_pos rfl]
theorem Blk.of_below {w w' : World} {R : Nat} {cs : Array Value} {T : TypeId} (h : Blk w R cs T) (hb : Below w.heap.size w w') : Blk w' R cs T := (hb.block R h.lt).trans h
theorem Blk.of_below' {w w' : World} {R B : Nat} {cs : Array Value} {T : TypeId} (h : Blk w R cs T) (hb : Below B w w') (hB : R < B) : Blk w' R cs T := (hb.block R hB).trans h
theorem Blk.mod {S : Nat → Prop} {w w' : World} {R : Nat} {cs : Array Value} {T : TypeId} (h : Blk w R cs T) (hm : Mod S w w') (hs : ¬ S R) : Blk w' R cs T := (hm.block R h.lt hs).trans h
theorem Blk.drew {w : World} {R : Nat} {cs : Array Value} {T : TypeId} (h : Blk w R cs T) : Blk w.drew R cs T := h
theorem Blk.alloc {w : World} {R : Nat} {cs : Array Value} {T : TypeId} (h : Blk w R cs T) (o : Obj) : Blk (w.alloc o) R cs T := h.of_below ((Below.refl _ _).alloc (Nat.le_refl _) o)
theorem Blk.set {w : World} {R : Nat} {cs : Array Value} {T : TypeId} (h : Blk w R cs T) (i : Nat) (v : Value) : Blk (w.setCell ⟨R, i, none⟩ v) R (cs.setIfInBounds i v) T := by
  unfold Blk at h ⊢
  simp only [World.setCell, Array.getElem?_modify]
  rw [h]
  simp
theorem Blk.other {w : World} {R R' : Nat} {cs : Array Value} {T : TypeId} (h : Blk w R cs T) (hn : R ≠ R') (i : Nat) (v : Value) : Blk (w.setCell ⟨R', i, none⟩ v) R cs T :=
  (Below.heap_setCell _ _ _ _ hn).trans h
theorem Blk.grown {w w' : World} {R : Nat} {cs : Array Value} {T : TypeId} {row : Option Nat} (h : Blk w R cs T) (hg : w.grownBy w' row) (hr : row ≠ some R) : Blk w' R cs T := (hg.block R h.lt (fun e => hr e.symm)).trans h
/-- What a call owns stays owned where its own row has not turned. -/
theorem own_mod {S : Nat → Prop} {w w' : World} {base n size : Nat} {e : TypeId} {v : Value} {xs : List Value} (h : w.ownsRow base e size v n xs) (hm : Mod S w w') (hs : ∀ g, v.ownBlock = some g → ¬ S g) : w'.ownsRow base e size v n xs := by
  refine ⟨h.1, ?_⟩
  rcases h.2 with h0 | ⟨g, cap, cur, rfl, hg, hh, hrest⟩
  · exact .inl h0
  · exact .inr ⟨g, cap, cur, rfl, hg, (hm.block g (h.lt g rfl).2 (hs g rfl)).trans hh, hrest⟩
/-- .. nor its block one of another type. -/
theorem own_ne {w : World} {B : Nat} {e T : TypeId} {v : Value} {n size : Nat} {xs : List Value} {b : Nat} {cs : Array Value} (hown : w.ownsRow B e size v n xs) (hb : Blk w b cs T) (hTe : T ≠ e) : v.ownBlock ≠ some b := by
  rcases hown.2 with ⟨rfl, _⟩ | ⟨g, cap, cur, rfl, _, hg, _⟩
  · simp [Value.ownBlock]
  · intro hc
    simp only [Value.ownBlock, Option.some.injEq] at hc
    subst hc
    unfold Blk at hb
    rw [hb] at hg
    injection hg with hg
    injection hg with _ h2 _
    exact hTe h2
/-- A block that is read whole. -/
theorem load_blk {P : Program} {w : World} {R : Nat} {cs : Array Value} {t : TypeId} (h : Blk w R cs t) (n : Nat) (hn : cs.size = n) : (loadCellsFrom ⟨R, 0, none⟩ 0 n #[]).run P w = .ok cs w := by
  subst hn
  have := run_loadCells_list (P := P) w ⟨R, 0, none⟩ cs.toList (World.news_of_block h)
  simpa [loadCells] using this
/-- 'xs = append(xs, u)': one element whose cells lie in a block of their own. -/
theorem wpList_pushB {P : Program} {w : World} {ops : Array Oper} {rest : List Oper} {o : Oper} {a : Act} {Q : Exit → Act → World → Prop} (s x : Operand) (t e : TypeId) (i : TypeInfo) (z : Value) (size bytes C : Nat) (cs : Array Value)
    (hgd : o.guard = none) (ho : o.op = .call { callee := .builtin .append, args := #[s, x], argTypes := #[t, t] })
    (ht : P.underlying t = some (.slice e)) (hi : P.info? e = some i) (hz : i.zero = some z) (hsize : i.size = size) (hby : i.bytes = bytes) (hzs : z.cells.size = size) (hsz : 0 < size) (hcl : cs.size = size) (h1 : ∀ u ∈ cs.toList, u.oneCell' = true)
    (B : Nat) (v : Value) (n : Nat) (xs : List Value) (hs : a.eval s = v) (hx : a.eval x = .slice (some ⟨C, 0, none⟩) 1 1)
    (hown : w.ownsRow B e size v n xs) (hb : Blk w C cs e) (hB : B ≤ w.heap.size) (h63 : n + 1 ≤ maxLen) (hbytes : (n + 1) * bytes ≤ 140737488355328)
    (h : ∀ v' w', w'.ownsRow B e size v' (n + 1) (xs ++ cs.toList) → w.grownBy w' v.ownBlock → wpList P ops Q rest (a.put o.dst v') w') :
    wpList P ops Q (o :: rest) a w :=
  wpList_append_own w hgd s x t ho B e i z size bytes ht hi hz hsize hby hzs hsz v n xs hs hown ⟨C, 0, none⟩ 1 1 cs.toList hx (by simpa using hcl) (World.news_of_block hb) h1 h63 hbytes hB (fun v' w' h2 h3 _ => h v' w' h2 h3)
end Go.Proofs.YtenoaonlngndpaaDoor

/- Worlds in which told blocks alone have turned (by number and content); a slice in memory of its own, from whatever cell on. Over whatever program. -/
namespace Go.Proofs.YtenoaonlngndpaaDoor
set_option linter.unusedVariables false
open Go.RowKit

/-- Below B nothing has turned; of what was there, only what S tells has. -/
structure Fr (B : Nat) (S : Nat → Obj → Prop) (w w' : World) : Prop where
  below : Below B w w'
  keep : ∀ k obj, w.heap[k]? = some obj → ¬ S k obj → w'.heap[k]? = some obj
theorem Fr.refl (B : Nat) (S : Nat → Obj → Prop) (w : World) : Fr B S w w := ⟨Below.refl _ _, fun _ _ h _ => h⟩
theorem Fr.trans {B : Nat} {S : Nat → Obj → Prop} {a b c : World} (h : Fr B S a b) (k : Fr B S b c) : Fr B S a c :=
  ⟨h.below.trans k.below, fun i o hi hs => k.keep i o (h.keep i o hi hs) hs⟩
theorem Fr.weaken {B B' : Nat} {S S' : Nat → Obj → Prop} {a b : World} (h : Fr B S a b) (hB : B' ≤ B) (hs : ∀ k o, a.heap[k]? = some o → S k o → S' k o) : Fr B' S' a b :=
  ⟨h.below.mono hB, fun i o hi hn => h.keep i o hi (fun c => hn (hs i o hi c))⟩
theorem heap_lt {w : World} {k : Nat} {o : Obj} (h : w.heap[k]? = some o) : k < w.heap.size := (Array.getElem?_eq_some_iff.1 h).1
/-- What turned later in blocks that are new counts for nothing. -/
theorem Fr.then {B : Nat} {S S' : Nat → Obj → Prop} {a b c : World} (h : Fr B S a b) (k : Fr B S' b c) (hs : ∀ i o, i < a.heap.size → S' i o → S i o) : Fr B S a c :=
  ⟨h.below.trans k.below, fun i o hi hn => k.keep i o (h.keep i o hi hn) (fun c => hn (hs i o (heap_lt hi) c))⟩
theorem Fr.of_below {B : Nat} {S : Nat → Obj → Prop} {a b : World} (h : Below a.heap.size a b) (hB : B ≤ a.heap.size) : Fr B S a b :=
  ⟨h.mono hB, fun k o hk _ => (h.block k (heap_lt hk)).trans hk⟩
theorem Fr.drew {B : Nat} {S : Nat → Obj → Prop} {a b : World} (h : Fr B S a b) : Fr B S a b.drew := ⟨h.below.drew, h.keep⟩
theorem Fr.alloc {B : Nat} {S : Nat → Obj → Prop} {a b : World} (h : Fr B S a b) (hB : B ≤ b.heap.size) (o : Obj) : Fr B S a (b.alloc o) :=
  h.trans (Fr.of_below ((Below.refl _ _).alloc (Nat.le_refl _) o) hB)
theorem Fr.set {B : Nat} {S : Nat → Obj → Prop} {a b : World} {R : Nat} {cs : Array Value} {t : TypeId} (h : Fr B S a b) (hb : Blk b R cs t) (hB : B ≤ R) (hS : ∀ cs' fz, S R (.cells cs' t fz)) (i : Nat) (v : Value) : Fr B S a (b.setCell ⟨R, i, none⟩ v) :=
  h.trans ⟨(Below.refl _ _).setCell hB _, fun k o hk hn => by
    by_cases e : k = R
    · subst e
      unfold Blk at hb
      rw [hb] at hk
      cases hk
      exact absurd (hS _ _) hn
    · exact (Below.heap_setCell _ _ _ _ e).trans hk⟩
theorem Fr.grown {B : Nat} {S : Nat → Obj → Prop} {a b c : World} {row : Option Nat} (h : Fr B S a b) (hg : b.grownBy c row) (hB : B ≤ b.heap.size) (hr : ∀ k, row = some k → B ≤ k) (hS : ∀ k o, row = some k → b.heap[k]? = some o → S k o ∨ a.heap.size ≤ k) : Fr B S a c :=
  ⟨h.below.grown hg hB hr, fun k o hk hn => by
    have h1 := h.keep k o hk hn
    rw [hg.block k (heap_lt h1) ?_]
    · exact h1
    · intro e
      rcases hS k o e.symm h1 with c | c
      · exact hn c
      · have := heap_lt hk; omega⟩
theorem Blk.fr {B : Nat} {S : Nat → Obj → Prop} {w w' : World} {R : Nat} {cs : Array Value} {t : TypeId} (h : Blk w R cs t) (m : Fr B S w w') (hs : ¬ S R (.cells cs t (0, 0))) : Blk w' R cs t := m.keep R _ h hs
theorem Blk.lo {B : Nat} {S : Nat → Obj → Prop} {w w' : World} {R : Nat} {cs : Array Value} {t : TypeId} (h : Blk w R cs t) (m : Fr B S w w') (hs : R < B) : Blk w' R cs t := (m.below.block R hs).trans h

/-- A slice in memory of its own, from whatever cell on: n elements of 'size' cells. -/
def Sl (B : Nat) (w : World) (e : TypeId) (size : Nat) (v : Value) (n : Nat) (xs : List Value) : Prop :=
  xs.length = n * size ∧ ((v = .slice none 0 0 ∧ n = 0) ∨
    ∃ g o cap cur, v = .slice (some ⟨g, o, none⟩) n cap ∧ B ≤ g ∧ w.heap[g]? = some (.cells cur e (0, 0)) ∧ n ≤ cap ∧ cap ≤ maxLen ∧ o + cap * size ≤ cur.size ∧ (cur.toList.drop o).take (n * size) = xs)
section
variable {B : Nat} {w : World} {e : TypeId} {size n : Nat} {v : Value} {xs : List Value}
theorem Sl.nil (B : Nat) (w : World) (e : TypeId) (size : Nat) : Sl B w e size (.slice none 0 0) 0 [] := ⟨by simp, .inl ⟨rfl, rfl⟩⟩
theorem Sl.of_own (h : w.ownsRow B e size v n xs) : Sl B w e size v n xs := by
  refine ⟨h.1, ?_⟩
  rcases h.2 with c | ⟨g, cap, cur, h1, h2, h3, h4, h5, h6, h7⟩
  · exact .inl c
  · exact .inr ⟨g, 0, cap, cur, h1, h2, h3, h4, h5, by omega, by simpa using h7⟩
theorem Sl.form (h : Sl B w e size v n xs) : ∃ ao cap, v = .slice ao n cap ∧ n ≤ cap ∧ cap ≤ maxLen ∧ (ao = none → n = 0 ∧ cap = 0) := by
  rcases h.2 with ⟨rfl, rfl⟩ | ⟨g, o, cap, cur, rfl, _, _, h4, h5, _⟩
  · exact ⟨_, _, rfl, Nat.le_refl _, by unfold maxLen; omega, fun _ => ⟨rfl, rfl⟩⟩
  · exact ⟨_, _, rfl, h4, h5, fun c => by cases c⟩
theorem Sl.lt (h : Sl B w e size v n xs) : ∀ k, v.ownBlock = some k → B ≤ k ∧ k < w.heap.size := by
  intro k hk
  rcases h.2 with ⟨rfl, _⟩ | ⟨g, o, cap, cur, rfl, hb, hg, _⟩
  · simp [Value.ownBlock] at hk
  · simp [Value.ownBlock] at hk
    subst hk
    exact ⟨hb, heap_lt hg⟩
theorem Sl.obj (h : Sl B w e size v n xs) : ∀ k o, v.ownBlock = some k → w.heap[k]? = some o → ∃ cur, o = .cells cur e (0, 0) := by
  intro k o' hk ho
  rcases h.2 with ⟨rfl, _⟩ | ⟨g, o, cap, cur, rfl, hb, hg, _⟩
  · simp [Value.ownBlock] at hk
  · simp [Value.ownBlock] at hk
    subst hk
    rw [hg] at ho
    cases ho
    exact ⟨_, rfl⟩
/-- It stays what it is while its block does. -/
theorem Sl.same {w' : World} (h : Sl B w e size v n xs) (hk : ∀ k, v.ownBlock = some k → w'.heap[k]? = w.heap[k]?) : Sl B w' e size v n xs := by
  refine ⟨h.1, ?_⟩
  rcases h.2 with c | ⟨g, o, cap, cur, rfl, hb, hg, r⟩
  · exact .inl c
  · exact .inr ⟨g, o, cap, cur, rfl, hb, (hk g rfl).trans hg, r⟩
theorem Sl.fr {w' : World} {S : Nat → Obj → Prop} {B' : Nat} (h : Sl B w e size v n xs) (m : Fr B' S w w') (hs : ∀ k cs, v.ownBlock = some k → ¬ S k (.cells cs e (0, 0))) : Sl B w' e size v n xs := by
  refine ⟨h.1, ?_⟩
  rcases h.2 with c | ⟨g, o, cap, cur, rfl, hb, hg, r⟩
  · exact .inl c
  · exact .inr ⟨g, o, cap, cur, rfl, hb, m.keep g _ hg (hs g _ rfl), r⟩
theorem Sl.below {w' : World} (h : Sl B w e size v n xs) (hb : Below w.heap.size w w') : Sl B w' e size v n xs := h.same fun k hk => hb.block k (h.lt k hk).2
theorem Sl.alloc (h : Sl B w e size v n xs) (o : Obj) : Sl B (w.alloc o) e size v n xs := h.below ((Below.refl _ _).alloc (Nat.le_refl _) o)
theorem Sl.drew (h : Sl B w e size v n xs) : Sl B w.drew e size v n xs := h
theorem Sl.set (h : Sl B w e size v n xs) {R : Nat} (i : Nat) (u : Value) (hne : v.ownBlock ≠ some R) : Sl B (w.setCell ⟨R, i, none⟩ u) e size v n xs :=
  h.same fun k hk => Below.heap_setCell _ _ _ _ (fun c => hne (hk.trans (by rw [c])))
theorem Sl.grown {w' : World} {row : Option Nat} (h : Sl B w e size v n xs) (hg : w.grownBy w' row) (hne : ∀ k, v.ownBlock = some k → row ≠ some k) : Sl B w' e size v n xs :=
  h.same fun k hk => hg.block k (h.lt k hk).2 (fun c => hne k hk c.symm)
/-- Its block is none of another type. -/
theorem Sl.ne (h : Sl B w e size v n xs) {b : Nat} {cs : Array Value} {T : TypeId} (hb : Blk w b cs T) (hT : T ≠ e) : v.ownBlock ≠ some b := by
  intro c
  unfold Blk at hb
  obtain ⟨cur, hc⟩ := h.obj b _ c hb
  injection hc with _ h2 _
  exact hT h2
theorem Sl.ne2 (h : Sl B w e size v n xs) {B' n' size' : Nat} {e' : TypeId} {v' : Value} {xs' : List Value} (h' : Sl B' w e' size' v' n' xs') (hT : e ≠ e') : ∀ k, v.ownBlock = some k → v'.ownBlock ≠ some k := by
  intro k hk hk'
  have hlt := (h.lt k hk).2
  obtain ⟨o, ho⟩ : ∃ o, w.heap[k]? = some o := ⟨_, Array.getElem?_eq_getElem hlt⟩
  obtain ⟨c1, e1⟩ := h.obj k o hk ho
  obtain ⟨c2, e2⟩ := h'.obj k o hk' ho
  rw [e1] at e2
  injection e2 with _ h2 _
  exact hT h2
theorem addr_add0 (g o j : Nat) : (⟨g, o, none⟩ : Addr).add j = ⟨g, o + j, none⟩ := Addr.add_lit _ _ _
/-- Its cells. -/
theorem Sl.cells {g o cap : Nat} (h : Sl B w e size (.slice (some ⟨g, o, none⟩) n cap) n xs) : ∀ j u, xs[j]? = some u → w.cell? ⟨g, o + j, none⟩ = some u := by
  intro j u hu
  rcases h.2 with ⟨c, _⟩ | ⟨g', o', cap', cur, hv, hb, hg, h4, h5, h6, h7⟩
  · cases c
  · cases hv
    rw [cell_of_row w g (o + j) cur e (0, 0) hg]
    rw [← h7, List.getElem?_take] at hu
    split at hu
    · simpa using hu
    · cases hu
theorem Sl.at (h : Sl B w e size v n xs) (hn : 0 < n) : ∃ g o cap, v = .slice (some ⟨g, o, none⟩) n cap ∧ B ≤ g ∧ g < w.heap.size ∧ n ≤ cap ∧ cap ≤ maxLen ∧ ∀ j u, xs[j]? = some u → w.cell? ⟨g, o + j, none⟩ = some u := by
  rcases h.2 with ⟨_, c⟩ | ⟨g, o, cap, cur, rfl, hb, hg, h4, h5, h6, h7⟩
  · omega
  · exact ⟨g, o, cap, rfl, hb, heap_lt hg, h4, h5, h.cells⟩
theorem drop_take_drop (l : List Value) (o k m : Nat) : ((l.drop o).take (k + m)).drop k = (l.drop (o + k)).take m := by
  rw [List.drop_take, List.drop_drop, Nat.add_sub_cancel_left]
/-- 'xs[1:]': the value. -/
theorem Sl.tail {a : Option Addr} {cap m : Nat} (h : Sl B w e size (.slice a (m + 1) cap) (m + 1) xs) : ∃ g o, a = some ⟨g, o, none⟩ ∧ 1 ≤ cap ∧ cap ≤ maxLen ∧
    Sl B w e size (.slice (some ⟨g, if cap = 1 then o else o + size, none⟩) m (cap - 1)) m (xs.drop size) := by
  rcases h.2 with ⟨_, c⟩ | ⟨g, o, cap', cur, hv, hb, hg, h4, h5, h6, h7⟩
  · omega
  · cases hv
    have hl : (xs.drop size).length = m * size := by rw [List.length_drop, h.1, Nat.succ_mul]; omega
    refine ⟨g, o, rfl, by omega, h5, hl, ?_⟩
    by_cases hc : cap = 1
    · obtain rfl : m = 0 := by omega
      have hx : xs.drop size = [] := List.eq_nil_of_length_eq_zero (by simpa using hl)
      rw [if_pos hc, hx]
      exact .inr ⟨g, o, cap - 1, cur, rfl, hb, hg, by omega, by omega, by subst hc; simp at h6 ⊢; omega, by simp⟩
    · rw [if_neg hc]
      refine .inr ⟨g, o + size, cap - 1, cur, rfl, hb, hg, by omega, by omega, ?_, ?_⟩
      · have : cap * size = (cap - 1) * size + size := by
          rw [← Nat.succ_mul]; congr 1; omega
        omega
      · rw [← h7, ← drop_take_drop]
        congr 2
        rw [Nat.succ_mul]; omega
variable {P : Program}
theorem run_append_sl (t ty : TypeId) (i : TypeInfo) (z : Value) (bytes : Nat) (ht : P.underlying t = some (.slice e)) (hi : P.info? e = some i) (hz : i.zero = some z)
    (hsize : i.size = size) (hby : i.bytes = bytes) (hzs : z.cells.size = size) (hsz : 0 < size) (h : Sl B w e size v n xs)
    (a : Addr) (m c : Nat) (news : List Value) (hl : news.length = m * size) (hnews : ∀ j u, news[j]? = some u → w.cell? (a.add j) = some u) (h1 : ∀ u ∈ news, u.oneCell' = true)
    (h63 : n + m ≤ maxLen) (hbytes : (n + m) * bytes ≤ 140737488355328) (hbase : B ≤ w.heap.size) :
    ∃ v' w', (Builtin.append_ #[t, t] ty #[v, .slice (some a) m c]).run P w = .ok v' w' ∧ Sl B w' e size v' (n + m) (xs ++ news) ∧ w.grownBy w' v.ownBlock ∧ (v'.ownBlock = v.ownBlock ∨ v'.ownBlock = some w.heap.size) := by
  rcases h.2 with ⟨rfl, rfl⟩ | ⟨g, o, cap, cur, rfl, hb, hg, h4, h5, h6, h7⟩
  · obtain rfl : xs = [] := List.eq_nil_of_length_eq_zero (by simpa using h.1)
    obtain ⟨v', w', hr, h2, h3, _, h5⟩ := run_append_own_at (P := P) w B t ty e i z size bytes ht hi hz hsize hby hzs hsz (.slice none 0 0) 0 [] (World.ownsRow_nil w _ e size) a m c news hl hnews h1 h63 hbytes hbase
    exact ⟨v', w', hr, Sl.of_own h2, h3, h5⟩
  · by_cases hroom : n + m ≤ cap
    · have hfc := run_firstCells_some (P := P) w i.size m a m c news (by rw [hsize]; exact hl) hnews
      have hms : (n + m) * size ≤ cap * size := Nat.mul_le_mul_right _ hroom
      have hnm : (n + m) * size = n * size + m * size := Nat.add_mul _ _ _
      have hst := run_storeCells_at P g (o + n * size) e news 0 cur w hg (by rw [hl]; omega) h1
      simp only [Nat.add_zero] at hst
      have hr : (Builtin.append_ #[t, t] ty #[.slice (some ⟨g, o, none⟩) n cap, .slice (some a) m c]).run P w =
          .ok (.slice (some ⟨g, o, none⟩) (n + m) cap) (w.setRow g (cur.toList.take (o + n * size) ++ news ++ cur.toList.drop (o + n * size + news.length)).toArray) := by
        subst hsize
        simp [Builtin.append_, run_underlying ht, sizeOf, typeInfo, hi, Builtin.lenOf, hroom, hfc, Addr.add_lit, hst]
      have hcl : cur.toList.length = cur.size := Array.length_toList
      refine ⟨_, _, hr, ⟨by rw [List.length_append, h.1, hl, hnm], .inr ⟨g, o, cap, _, rfl, hb, setRow_heap w g cur _ e _ hg, hroom, h5, ?_, ?_⟩⟩, ⟨rfl, rfl, rfl, by simp, fun k _ hk => setRow_other w g k _ (fun e => hk (by simp [Value.ownBlock, e]))⟩, .inl rfl⟩
      · simp only [List.size_toArray, List.length_append, List.length_take, List.length_drop, Array.length_toList]
        omega
      · have e1 : cur.toList.take (o + n * size) = cur.toList.take o ++ xs := by
          rw [List.take_add, h7]
        have ho : (cur.toList.take o).length = o := by rw [List.length_take]; omega
        simp only [e1, List.append_assoc]
        rw [List.drop_left' ho, ← List.append_assoc, List.take_left' (by rw [List.length_append, h.1, hl, hnm])]
    · have holds : ∀ j u, xs[j]? = some u → w.cell? ((⟨g, o, none⟩ : Addr).add j) = some u := fun j u hu => by rw [addr_add0]; exact h.cells j u hu
      obtain ⟨v', w', hr, r1, r2⟩ := run_append_arg_grows (P := P) w t ty e i z size bytes ht hi hz hsize hby hzs hsz ⟨g, o, none⟩ n cap xs h.1 holds a m c news hl hnews (by omega) h63 hbytes
      refine ⟨v', w', hr, ?_, ⟨r2.os, r2.tape, r2.output, r2.size, fun k hk _ => r2.block k hk (by simp)⟩, .inr ?_⟩
      · have := Sl.of_own r1
        refine ⟨this.1, ?_⟩
        rcases this.2 with c | ⟨g', o', cap', cur', hv, hB, r⟩
        · exact .inl c
        · exact .inr ⟨g', o', cap', cur', hv, by omega, r⟩
      · have hr2 := run_append_grow (P := P) w t ty e i z ht hi hz ⟨g, o, none⟩ n cap xs (by rw [hsize]; exact h.1) holds a m c news (by rw [hsize]; exact hl) hnews (by omega) (by unfold maxLen at h63; omega) (by subst hby; exact growslice_fits (by omega) hbytes)
        rw [hr2] at hr
        injection hr with hr _
        subst hr
        rfl
/-- 'xs = append(xs, u)' for the walk: one element whose cells lie in a block of their own. -/
theorem wpList_append_sl {ops : Array Oper} {rest : List Oper} {o : Oper} {a : Act} {Q : Exit → Act → World → Prop} (s x : Operand) (t : TypeId) (i : TypeInfo) (z : Value) (bytes C : Nat) (cs : Array Value)
    (hgd : o.guard = none) (ho : o.op = .call { callee := .builtin .append, args := #[s, x], argTypes := #[t, t] })
    (ht : P.underlying t = some (.slice e)) (hi : P.info? e = some i) (hz : i.zero = some z) (hsize : i.size = size) (hby : i.bytes = bytes) (hzs : z.cells.size = size) (hsz : 0 < size) (hcl : cs.size = size) (h1 : ∀ u ∈ cs.toList, u.oneCell' = true)
    (hs : a.eval s = v) (hx : a.eval x = .slice (some ⟨C, 0, none⟩) 1 1)
    (hown : Sl B w e size v n xs) (hb : Blk w C cs e) (hB : B ≤ w.heap.size) (h63 : n + 1 ≤ maxLen) (hbytes : (n + 1) * bytes ≤ 140737488355328)
    (h : ∀ v' w', Sl B w' e size v' (n + 1) (xs ++ cs.toList) → w.grownBy w' v.ownBlock → (v'.ownBlock = v.ownBlock ∨ v'.ownBlock = some w.heap.size) → wpList P ops Q rest (a.put o.dst v') w') :
    wpList P ops Q (o :: rest) a w := by
  refine wpList_plain hgd fun K hK' => ?_
  obtain ⟨v', w', hrun, r1, r2, r3⟩ := run_append_sl (P := P) t o.type i z bytes ht hi hz hsize hby hzs hsz hown ⟨C, 0, none⟩ 1 1 cs.toList (by simpa using hcl) (World.news_of_block hb) h1 h63 hbytes hB
  unfold Oper.wp
  simp [execOp, ho, resolve, invoke, builtin, hs, hx, hrun, Result.andThen]
  exact hK' _ _ (h v' w' r1 r2 r3)
end
end Go.Proofs.YtenoaonlngndpaaDoor

/- Adverts, rules towards peers and places in memory of their own; the base's map. -/
namespace Go.Proofs.YtenoaonlngndpaaDoor
set_option linter.unusedVariables false
set_option linter.unusedSimpArgs false
open Go.RowKit Go.Maps Pl

def strC (x : ByteArray) : List Value := [.string x]
def lkC (l : Lk) : List Value := [.int .i64 l.peer, .string l.rule.pat, .int .i64 l.rule.dir, .int .i64 l.rule.qos, .string l.rule.loc, .string l.rule.rem]
def lkA (l : Lk) : Array Value := #[.int .i64 l.peer, .string l.rule.pat, .int .i64 l.rule.dir, .int .i64 l.rule.qos, .string l.rule.loc, .string l.rule.rem]
def plC (p : Plc) : List Value := [.int .i64 p.br, .string p.tp, .int .i64 p.hp]
def plA (p : Plc) : Array Value := #[.int .i64 p.br, .string p.tp, .int .i64 p.hp]
def adA (a : Ad) (vf vl : Value) : Array Value := #[.int .i64 a.owner, .int .i64 a.version, vf, vl]
/-- What lies at an element's place. -/
theorem flat_get {α : Type} (enc : α → List Value) (sz : Nat) (hs : ∀ x, (enc x).length = sz) : ∀ (l : List α) (i : Nat) (x : α), l[i]? = some x → ∀ j u, (enc x)[j]? = some u → (l.flatMap enc)[i * sz + j]? = some u
  | [], i, x, h, j, u, hu => by cases h
  | y :: l, 0, x, h, j, u, hu => by
    cases h
    rw [List.flatMap_cons, Nat.zero_mul, Nat.zero_add, List.getElem?_append_left (List.getElem?_eq_some_iff.1 hu).1]
    exact hu
  | y :: l, i + 1, x, h, j, u, hu => by
    rw [List.flatMap_cons, List.getElem?_append_right (by rw [hs, Nat.succ_mul]; omega), hs, show (i + 1) * sz + j - sz = i * sz + j from by rw [Nat.succ_mul]; omega]
    exact flat_get enc sz hs l i x (by simpa using h) j u hu
theorem flat_snoc {α : Type} (enc : α → List Value) (l : List α) (x : α) : (l ++ [x]).flatMap enc = l.flatMap enc ++ enc x := by simp
theorem flat_one {α : Type} (enc : α → List Value) (h : ∀ x, ∀ u ∈ enc x, u.oneCell' = true) (l : List α) : ∀ u ∈ l.flatMap enc, u.oneCell' = true := by
  intro u hu
  obtain ⟨x, _, hx⟩ := List.mem_flatMap.1 hu
  exact h x u hx
theorem strC_one (x : ByteArray) : ∀ u ∈ strC x, u.oneCell' = true := by
  intro u hu
  simp only [strC, List.mem_cons, List.not_mem_nil, or_false] at hu
  subst hu; rfl
theorem lkC_one (x : Lk) : ∀ u ∈ lkC x, u.oneCell' = true := by
  intro u hu
  simp only [lkC, List.mem_cons, List.not_mem_nil, or_false] at hu
  rcases hu with rfl | rfl | rfl | rfl | rfl | rfl <;> rfl
theorem plC_one (x : Plc) : ∀ u ∈ plC x, u.oneCell' = true := by
  intro u hu
  simp only [plC, List.mem_cons, List.not_mem_nil, or_false] at hu
  rcases hu with rfl | rfl | rfl <;> rfl
/-- An advert's slices. -/
structure AdAt (B : Nat) (w : World) (T : TypeId) (a : Ad) (vf vl : Value) : Prop where
  fs : Sl B w 9 1 vf a.fs.length (a.fs.flatMap strC)
  ls : Sl B w T 6 vl a.ls.length (a.ls.flatMap lkC)
theorem Sl.mono {B B' : Nat} {w : World} {e : TypeId} {size n : Nat} {v : Value} {xs : List Value} (h : Sl B w e size v n xs) (hB : B' ≤ B) : Sl B' w e size v n xs := by
  refine ⟨h.1, ?_⟩
  rcases h.2 with c | ⟨g, o, cap, cur, h1, h2, r⟩
  · exact .inl c
  · exact .inr ⟨g, o, cap, cur, h1, by omega, r⟩
theorem Sl.drewN {B n size : Nat} {w : World} {e : TypeId} {v : Value} {xs : List Value} (h : Sl B w e size v n xs) (k : Nat) : Sl B (w.drewN k) e size v n xs := h.same (w' := w.drewN k) (fun _ _ => by rfl)
theorem drewN_below (w : World) (n : Nat) : Below w.heap.size w (w.drewN n) := ⟨rfl, rfl, rfl, Nat.le_refl _, fun _ _ => rfl⟩
theorem AdAt.mono {B B' : Nat} {w : World} {T : TypeId} {a : Ad} {vf vl : Value} (h : AdAt B w T a vf vl) (hB : B' ≤ B) : AdAt B' w T a vf vl := ⟨h.fs.mono hB, h.ls.mono hB⟩
theorem AdAt.below {B : Nat} {w w' : World} {T : TypeId} {a : Ad} {vf vl : Value} (h : AdAt B w T a vf vl) (m : Below w.heap.size w w') : AdAt B w' T a vf vl := ⟨h.fs.below m, h.ls.below m⟩
theorem AdAt.fr {B B' : Nat} {S : Nat → Obj → Prop} {w w' : World} {T : TypeId} {a : Ad} {vf vl : Value} (h : AdAt B w T a vf vl) (m : Fr B' S w w') (h1 : ∀ k cs, ¬ S k (.cells cs 9 (0, 0))) (h2 : ∀ k cs, ¬ S k (.cells cs T (0, 0))) : AdAt B w' T a vf vl :=
  ⟨h.fs.fr m (fun k cs _ => h1 k cs), h.ls.fr m (fun k cs _ => h2 k cs)⟩
theorem Sl.one {B n size : Nat} {w : World} {e : TypeId} {v : Value} {xs : List Value} (h : Sl B w e size v n xs) : v.oneCell' = true := by
  obtain ⟨ao, cap, rfl, -⟩ := h.form
  rfl
theorem ad_one {B : Nat} {w : World} {T : TypeId} {a : Ad} {vf vl : Value} (h : AdAt B w T a vf vl) : (adA a vf vl).all (·.oneCell') = true := by
  have h1 := h.fs.one
  have h2 := h.ls.one
  simp [adA]
  simp [Value.oneCell'] at h1 h2 ⊢
  exact ⟨h1, h2⟩
theorem blk_at (w : World) (cs : Array Value) (T : TypeId) {b : Nat} (h : b = w.heap.size) : Blk (w.alloc (.cells cs T)) b cs T := by subst h; exact Blk.new w cs T
theorem Blk.setRow {w : World} {R : Nat} {cs cs' : Array Value} {T : TypeId} (h : Blk w R cs T) : Blk (w.setRow R cs') R cs' T := setRow_heap w R cs cs' T (0, 0) h
theorem Blk.setRow_other {w : World} {R R' : Nat} {cs cs' : Array Value} {T : TypeId} (h : Blk w R cs T) (hn : R ≠ R') : Blk (w.setRow R' cs') R cs T := (Go.setRow_other w R' R cs' hn).trans h
theorem wpList_store_rowZ {P : Program} {ops : Array Oper} {rest : List Oper} {o : Oper} {a : Act} {w : World} {Q : Exit → Act → World → Prop} (hgd : o.guard = none) (ty : TypeId) (x y : Operand) (ho : o.op = .store ty x y)
    (hd : o.dst = none) (g : Nat) (cells : Array Value) (hx : a.eval x = .pointer (some ⟨g, 0, none⟩)) (hy : a.eval y = .agg cells)
    (t : TypeId) (old : Array Value) (hg : w.heap[g]? = some (.cells old t (0, 0))) (hi : (P.info? ty).map (·.size) = some cells.size)
    (hold : old.size = cells.size) (h1 : cells.all (·.oneCell') = true) (Z : World) (hZ : w.setRow g cells = Z)
    (h : wpList P ops Q rest a Z) : wpList P ops Q (o :: rest) a w :=
  wpList_store_rowTo hgd ty x y ho hd g cells hx hy t old hg hi hold h1 (by rw [hZ]; exact h)
/-! ### a map from numbers -/
def HV (v : Value) : Option (DataW Value × List MemPlace) := some (.held v, [])
theorem HV_inj {v u : Value} {ps : List MemPlace} (h : HV v = some (.held u, ps)) : v = u := by
  unfold HV at h
  injection h with h
  injection h with h _
  injection h
def KMap (mb : Nat) (z : Value) (M : Int → Option Value) (n : Nat) (w : World) : Prop := ∃ D : DataW Value, w.ownsMap Tryd.prog 3 HV mb n D ∧
  ∀ x : Int, D.atKey (.int .i64 x) (.held z) = .held ((M x).getD z) ∧ Maps.has D (.int .i64 x) = (M x).isSome
theorem int_law : Keyed Tryd.prog 3 := int_keyed Tryd.underlying3
theorem KMap.new (z : Value) (w : World) : KMap w.heap.size z (fun _ => none) 0 (w.alloc (.map #[] 0)) := ⟨.map [], World.ownsMap_made _ _ _ _, fun x => ⟨rfl, rfl⟩⟩
theorem KMap.lt {mb n : Nat} {z : Value} {M : Int → Option Value} {w : World} (h : KMap mb z M n w) : mb < w.heap.size := by obtain ⟨D, h1, _⟩ := h; exact h1.lt
theorem KMap.same {mb n : Nat} {z : Value} {M : Int → Option Value} {w w' : World} (h : KMap mb z M n w) (hs : w'.heap[mb]? = w.heap[mb]?) : KMap mb z M n w' := by
  obtain ⟨D, ⟨es, clock, hb, r⟩, r2⟩ := h
  exact ⟨D, ⟨es, clock, hs.trans hb, r⟩, r2⟩
theorem KMap.obj {mb n : Nat} {z : Value} {M : Int → Option Value} {w : World} (h : KMap mb z M n w) : ∃ es clock, w.heap[mb]? = some (.map es clock) := by
  obtain ⟨D, ⟨es, clock, hb, r⟩, r2⟩ := h
  exact ⟨es, clock, hb⟩
theorem KMap.look {mb n : Nat} {z : Value} {M : Int → Option Value} {w : World} {t e : TypeId} (h : KMap mb z M n w) (ht : Tryd.prog.underlying t = some (.map 3 e)) (hz : (zeroValue e).run Tryd.prog w = .ok z w) {x : Int} (hx : (Lit.int .i64 x).wf = true) :
    (Instr.lookup t (.map (some mb)) (.int .i64 x) false).run Tryd.prog w = .ok ((M x).getD z) w := by
  obtain ⟨D, h1, h3⟩ := h
  obtain ⟨v, ps, hr, hv⟩ := h1.lookup int_law ht hz (zd := .held z) (zp := []) rfl (keyOf_int_mk Tryd.underlying3 hx)
  rw [(h3 x).1] at hv
  rw [hr, HV_inj hv]
theorem KMap.look_ok {mb n : Nat} {z : Value} {M : Int → Option Value} {w : World} {t e : TypeId} (h : KMap mb z M n w) (ht : Tryd.prog.underlying t = some (.map 3 e)) (hz : (zeroValue e).run Tryd.prog w = .ok z w) {x : Int} (hx : (Lit.int .i64 x).wf = true) :
    (Instr.lookup t (.map (some mb)) (.int .i64 x) true).run Tryd.prog w = .ok (.tuple #[(M x).getD z, .bool (M x).isSome]) w := by
  obtain ⟨D, h1, h3⟩ := h
  obtain ⟨v, ps, hr, hv⟩ := h1.look_ok int_law ht hz (zd := .held z) (zp := []) rfl (keyOf_int_mk Tryd.underlying3 hx)
  rw [(h3 x).1] at hv
  rw [hr, HV_inj hv, (h3 x).2]
def kput (M : Int → Option Value) (x : Int) (v : Value) : Int → Option Value := fun y => if y = x then some v else M y
theorem KMap.store {mb n : Nat} {z : Value} {M : Int → Option Value} {w : World} {t e : TypeId} (h : KMap mb z M n w) (ht : Tryd.prog.underlying t = some (.map 3 e)) {x : Int} (hx : (Lit.int .i64 x).wf = true) (v : Value) (hn : n < maxLen) :
    ∃ w', (Instr.mapUpdate t (.map (some mb)) (.int .i64 x) v).run Tryd.prog w = .ok () w' ∧ KMap mb z (kput M x v) (n + 1) w' ∧ w.grownBy w' (some mb) := by
  obtain ⟨D, h1, h3⟩ := h
  have hk : WideAt.IsKeyLit (.int .i64 x) := trivial
  obtain ⟨w', hr, q1, q2⟩ := h1.update int_law ht hn (keyOf_int_mk Tryd.underlying3 hx) (val := v) (d := .held v) (ps := []) rfl
  refine ⟨w', hr, ⟨D.put (.int .i64 x) (.held v), q1, fun y => ?_⟩, q2⟩
  unfold kput
  by_cases e : y = x
  · subst e
    rw [atKey_put_same h1.isMap hk, has_put_same h1.isMap hk]
    simp
  · have hne : (Lit.int .i64 y) ≠ .int .i64 x := fun c => e (by injection c)
    rw [atKey_put_other hne, has_put_other hne, (h3 y).1, (h3 y).2, if_neg e]
    exact ⟨rfl, rfl⟩
/-! ### the base -/
def zAd : Ad := ⟨0, 0, [], []⟩
def zAdV : Value := .agg #[.int .i64 0, .int .i64 0, .slice none 0 0, .slice none 0 0]
theorem zero_ad (w : World) : (zeroValue 47).run Tryd.prog w = .ok zAdV w := by kernel_rfl
def KbOk (K : Kb) : Prop := ∀ x a, K x = some a → goodA a = true ∧ a.owner = x
structure KbAt (B bp mb n : Nat) (K : Kb) (w : World) : Prop where
  hb : B ≤ bp
  hm : B ≤ mb
  blk : Blk w bp #[.map (some mb)] 94
  ok : KbOk K
  map : ∃ M : Int → Option Value, KMap mb zAdV M n w ∧ ∀ x, match K x with
    | none => M x = none
    | some a => ∃ vf vl, M x = some (.agg (adA a vf vl)) ∧ AdAt B w 55 a vf vl
/-- What Learn turns. -/
def mapS (mb : Nat) (k : Nat) (_ : Obj) : Prop := k = mb
theorem KMap.ne {mb n : Nat} {z : Value} {M : Int → Option Value} {w : World} {b : Nat} {cs : Array Value} {T : TypeId} (h : KMap mb z M n w) (hb : Blk w b cs T) : mb ≠ b := by
  intro e
  obtain ⟨es, c, h1⟩ := h.obj
  unfold Blk at hb
  rw [← e, h1] at hb
  cases hb
theorem KbAt.below {B bp mb n : Nat} {K : Kb} {w w' : World} (h : KbAt B bp mb n K w) (m : Below w.heap.size w w') : KbAt B bp mb n K w' := by
  obtain ⟨M, h1, h2⟩ := h.map
  refine ⟨h.hb, h.hm, h.blk.of_below m, h.ok, M, h1.same (m.block mb h1.lt), fun x => ?_⟩
  have h3 := h2 x
  cases hK : K x with
  | none => rw [hK] at h3; exact h3
  | some a =>
    rw [hK] at h3
    obtain ⟨vf, vl, h4, h5⟩ := h3
    exact ⟨vf, vl, h4, h5.below m⟩
theorem KbAt.sz {B bp mb n : Nat} {K : Kb} {w : World} (h : KbAt B bp mb n K w) : B ≤ w.heap.size := Nat.le_trans h.hb (Nat.le_of_lt h.blk.lt)
/-- The value that is there of a broker. -/
theorem KbAt.at {B bp mb n : Nat} {K : Kb} {w : World} (h : KbAt B bp mb n K w) (x : Int) (hx : (Lit.int .i64 x).wf = true) :
    ∃ vf vl, (∀ k, (Instr.lookup 92 (.map (some mb)) (.int .i64 x) true).run Tryd.prog (w.drewN k) = .ok (.tuple #[.agg (adA ((K x).getD zAd) vf vl), .bool (K x).isSome]) (w.drewN k)) ∧
      (∀ k, (Instr.lookup 92 (.map (some mb)) (.int .i64 x) false).run Tryd.prog (w.drewN k) = .ok (.agg (adA ((K x).getD zAd) vf vl)) (w.drewN k)) ∧ AdAt B w 55 ((K x).getD zAd) vf vl := by
  obtain ⟨M, h1, h2⟩ := h.map
  have h3 := h2 x
  have hk : ∀ k, KMap mb zAdV M n (w.drewN k) := fun k => h1.same (w' := w.drewN k) rfl
  cases hK : K x with
  | none =>
    rw [hK] at h3
    refine ⟨.slice none 0 0, .slice none 0 0, fun k => ?_, fun k => ?_, Sl.nil _ _ _ _, Sl.nil _ _ _ _⟩
    · rw [(hk k).look_ok Tryd.underlying92 (zero_ad _) hx, h3]; rfl
    · rw [(hk k).look Tryd.underlying92 (zero_ad _) hx, h3]; rfl
  | some a =>
    rw [hK] at h3
    obtain ⟨vf, vl, h4, h5⟩ := h3
    refine ⟨vf, vl, fun k => ?_, fun k => ?_, h5⟩
    · rw [(hk k).look_ok Tryd.underlying92 (zero_ad _) hx, h4]; rfl
    · rw [(hk k).look Tryd.underlying92 (zero_ad _) hx, h4]; rfl
end Go.Proofs.YtenoaonlngndpaaDoor
