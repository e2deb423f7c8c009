/- Plain facts about topics: levels, what may be a name or a filter, what matches; no program in sight. -/
import Derived.Test.YtdjiioidkgppjaaDoorTextPlain
import Derived.Lib.SplitLaws
import Derived.Lib.Join
import Derived.Lib.IndexBytes
namespace Go.Proofs.YtdjiioidkgppjaaDoor.Pl
open Go

abbrev Bs := List UInt8
/-- A list of bytes as Go's string. -/
def strV (l : Bs) : Value := .string ⟨l.toArray⟩

def prep (x : Bs) : List Bs → List Bs
  | [] => [x]
  | h :: t => (x ++ h) :: t
/-- The pieces between slashes. -/
def lev : Bs → List Bs
  | [] => [[]]
  | c :: r => if c = 47 then [] :: lev r else prep [c] (lev r)

theorem prep_ne (x : Bs) (L : List Bs) : prep x L ≠ [] := by
  cases L <;> simp [prep]
theorem lev_ne (l : Bs) : lev l ≠ [] := by
  cases l with
  | nil => simp [lev]
  | cons c r =>
    unfold lev
    split
    · simp
    · exact prep_ne _ _
theorem prep_prep (x y : Bs) {L : List Bs} (h : L ≠ []) : prep x (prep y L) = prep (x ++ y) L := by
  cases L with
  | nil => exact absurd rfl h
  | cons a t => simp [prep]
theorem prep_nil {L : List Bs} (h : L ≠ []) : prep [] L = L := by
  cases L with
  | nil => exact absurd rfl h
  | cons a t => rfl
theorem prep_len (x : Bs) {L : List Bs} (h : L ≠ []) : (prep x L).length = L.length := by
  cases L with
  | nil => exact absurd rfl h
  | cons a t => rfl
theorem lev_len (l : Bs) : (lev l).length = l.count 47 + 1 := by
  induction l with
  | nil => rfl
  | cons c r ih =>
    unfold lev
    by_cases h : c = 47
    · rw [if_pos h, h, List.length_cons, ih, List.count_cons_self]
    · rw [if_neg h, prep_len _ (lev_ne r), ih, List.count_cons_of_ne h]
theorem lev_slash (r : Bs) : lev (47 :: r) = [] :: lev r := by rw [lev, if_pos rfl]
theorem lev_other {c : UInt8} (r : Bs) (h : c ≠ 47) : lev (c :: r) = prep [c] (lev r) := by rw [lev, if_neg h]

theorem lev_plain {l : Bs} (h : l.count 47 = 0) : lev l = [l] := by
  induction l with
  | nil => rfl
  | cons c r ih =>
    have hc : c ≠ 47 := by rintro rfl; simp at h
    rw [List.count_cons_of_ne hc] at h
    rw [lev_other _ hc, ih h]
    rfl

theorem index_slash (r : Bs) : Lib.index (47 :: r) [47] = 0 := by
  rw [Lib.index_one]; rfl
theorem index_other {c : UInt8} (r : Bs) (h : c ≠ 47) : Lib.index (c :: r) [47] = if Lib.index r [47] = -1 then -1 else Lib.index r [47] + 1 := by
  rw [Lib.index_one, Lib.index_one]
  have e : (c == 47) = false := beq_eq_false_iff_ne.2 h
  simp [Lib.indexByte, e]

theorem splitK_lev : ∀ l : Bs, Lib.splitK [47] 0 (Lib.count l [47]) l = lev l := by
  intro l
  induction l with
  | nil => rfl
  | cons c r ih =>
    by_cases h : c = 47
    · subst h
      have hm : ¬ (Lib.index (47 :: r) [47] == -1) = true := by rw [index_slash]; decide
      rw [lev_slash, Lib.count_cons_eq, Nat.add_comm, Lib.splitK, if_neg hm, index_slash]
      show (47 :: r).take 0 :: Lib.splitK [47] 0 (Lib.count r [47]) ((47 :: r).drop 1) = _
      rw [List.take_zero, List.drop_succ_cons, List.drop_zero, ih]
    · rw [lev_other _ h, Lib.count_cons_ne _ _ _ h, ← ih]
      have hcount : Lib.count r [47] = r.count 47 := Lib.count_one 47 r
      cases hk : Lib.count r [47] with
      | zero => rfl
      | succ k =>
        by_cases hi : Lib.index r [47] = -1
        · rw [Lib.count_miss hi] at hk; cases hk
        · have hge := Lib.index_ge r [47]
          obtain ⟨i, hi'⟩ : ∃ i : Nat, Lib.index r [47] = i := ⟨(Lib.index r [47]).toNat, by omega⟩
          have e1 : Lib.index (c :: r) [47] = ((i + 1 : Nat) : Int) := by rw [index_other _ h, if_neg hi, hi']; omega
          have m1 : ¬ (Lib.index r [47] == -1) = true := by rw [beq_iff_eq]; exact hi
          have m2 : ¬ (Lib.index (c :: r) [47] == -1) = true := by rw [beq_iff_eq, e1]; omega
          rw [Lib.splitK, if_neg m2, Lib.splitK, if_neg m1, e1, hi']
          simp [prep]

/-- Is the byte among them? -/
def has (c : UInt8) (l : Bs) : Bool := l.elem c
theorem contains_has (l : Bs) (c : UInt8) : Lib.contains l [c] = has c l := by
  unfold Lib.contains has
  rw [Lib.index_one]
  induction l with
  | nil => rfl
  | cons b r ih =>
    have hge : -1 ≤ Lib.indexByte r c := by rw [← Lib.index_one]; exact Lib.index_ge _ _
    unfold Lib.indexByte
    by_cases h : b = c
    · subst h; simp
    · have e : (b == c) = false := beq_eq_false_iff_ne.2 h
      have e2 : (c == b) = false := beq_eq_false_iff_ne.2 (fun x => h x.symm)
      rw [List.elem_cons, e2, e, ← ih]
      by_cases hm : Lib.indexByte r c = -1
      · simp [hm]
      · have m : (Lib.indexByte r c == -1) = false := beq_eq_false_iff_ne.2 hm
        simp only [m, Bool.false_eq_true, if_false]
        congr 1
        rw [eq_iff_iff]
        omega

/-- May it be a filter's level? -/
def lvOK (x : Bs) (last : Bool) : Bool := (!has 43 x || x == [43]) && (!has 35 x || (x == [35] && last))
def fok : List Bs → Bool
  | [] => true
  | x :: r => lvOK x r.isEmpty && fok r
/-- Is it a text of a length that may be? -/
def szd (s : ByteArray) : Bool := !(flt s s.size 0).2 && (decide (0 < s.size) && (decide (s.size ≤ 256) && decide ((lev s.data.toList).length ≤ 32)))
def nameB (s : ByteArray) : Bool := szd s && (!has 43 s.data.toList && !has 35 s.data.toList)
def filtB (s : ByteArray) : Bool := szd s && fok (lev s.data.toList)
def nameC (s : ByteArray) : Int := if nameB s then 0 else 144
def filtC (s : ByteArray) : Int := if filtB s then 0 else 143
/-- Level by level. -/
def mtL : List Bs → List Bs → Bool
  | [], [] => true
  | [], _ :: _ => false
  | x :: f, n => if x = [35] then true else
    match n with
    | [] => false
    | y :: n' => (x == [43] || x == y) && mtL f n'
def dol (F N : Bs) : Bool := N.head? == some 36 && (F.head? == some 43 || F.head? == some 35)
def mtB (F N : ByteArray) : Bool := filtB F && (nameB N && (!dol F.data.toList N.data.toList && mtL (lev F.data.toList) (lev N.data.toList)))
end Go.Proofs.YtdjiioidkgppjaaDoor.Pl
