/- The bytes of properties: plain. -/
import Derived.Test.YtifbkfkieppacaaDoorPropP
import Derived.Test.YtifbkfkieppacaaDoorKindPlain
import Derived.Test.YtifbkfkieppacaaDoorTextPut
import Derived.Test.YtifbkfkieppacaaDoorVarPut
namespace Go.Proofs.YtifbkfkieppacaaDoor
set_option linter.unusedVariables false
open Go.RowKit Pl

def Pp.fits (p : Pp) : Prop := p.s.size ≤ 140737488351232 ∧ p.t.size ≤ 140737488351232 ∧ -9223372036854775808 ≤ p.id ∧ p.id ≤ 9223372036854775807 ∧ -9223372036854775808 ≤ p.n ∧ p.n ≤ 9223372036854775807
/-- How many bytes a number of a kind has. -/
def wid (k : Int) : Int := if k = 1 then 1 else if k = 2 then 2 else 4
/-- A value's code, and its bytes. -/
def pvC (p : Pp) : Int :=
  if kindOf p.id = 4 then putC p.n else if kindOf p.id = 5 then dataC p.s else if kindOf p.id = 6 then tputC p.s
  else if kindOf p.id = 7 then (if tputC p.s = 0 then tputC p.t else tputC p.s) else fixC (wid (kindOf p.id)) p.n
def pvS (p : Pp) : ByteArray :=
  if kindOf p.id = 4 then ⟨(enc p.n).toArray⟩ else if kindOf p.id = 5 then dataS p.s else if kindOf p.id = 6 then tputS p.s
  else if kindOf p.id = 7 then tputS p.s ++ tputS p.t else ⟨(fixS (wid (kindOf p.id)) p.n).toArray⟩
theorem pvC_bd (p : Pp) : 0 ≤ pvC p ∧ pvC p ≤ 149 := by
  unfold pvC
  have h1 := putC_bd p.n
  have h2 := dataC_bd p.s
  have h3 := tputC_bd p.s
  have h4 := tputC_bd p.t
  have h5 := fixC_bd (wid (kindOf p.id)) p.n
  repeat' split
  all_goals omega
theorem enc_small (n : Int) : (enc n).length ≤ 4 := by
  rw [enc_length]
  unfold sz
  repeat' split
  all_goals decide
theorem dataS_small (s : ByteArray) : (dataS s).size ≤ 65537 := by
  unfold dataS
  split
  · decide
  · rename_i h
    have := fixS_len 2 s.size
    rw [ByteArray.size_append]
    show (fixS 2 s.size).toArray.size + s.size ≤ 65537
    simp at this ⊢
    omega
theorem tputS_small (s : ByteArray) : (tputS s).size ≤ 65537 := by
  unfold tputS
  split
  · decide
  · exact dataS_small s
theorem pvS_small (p : Pp) : (pvS p).size ≤ 131074 := by
  unfold pvS
  split
  · have := enc_small p.n
    show (enc p.n).toArray.size ≤ _
    simp; omega
  · split
    · have := dataS_small p.s; omega
    · split
      · have := tputS_small p.s; omega
      · split
        · have h1 := tputS_small p.s
          have h2 := tputS_small p.t
          rw [ByteArray.size_append]; omega
        · have := fixS_len (wid (kindOf p.id)) p.n
          have h2 : (wid (kindOf p.id)).toNat ≤ 4 := by
            unfold wid
            repeat' split
            all_goals decide
          show (fixS (wid (kindOf p.id)) p.n).toArray.size ≤ _
          simp; omega
/-- Has one of the first k the identifier, which may stand but once? -/
def dup (L : List Pp) (k : Nat) (id : Int) : Bool := (L.take k).any (fun p => p.id == id) && (id != 38)
/-- The code at one more. -/
def stp (L : List Pp) (k : Nat) (p : Pp) : Int := if kindOf p.id = 0 then 129 else if dup L k p.id = true then 130 else pvC p
def one (p : Pp) : ByteArray := ⟨(enc p.id).toArray⟩ ++ pvS p
def putK (L : List Pp) : Nat → ByteArray
  | 0 => ⟨#[]⟩
  | k + 1 => match L[k]? with | some p => putK L k ++ one p | none => putK L k
def codK (L : List Pp) : Nat → Int
  | 0 => 0
  | k + 1 => if codK L k = 0 then (match L[k]? with | some p => stp L k p | none => 0) else codK L k
theorem put_succ {L : List Pp} {k : Nat} {p : Pp} (h : L[k]? = some p) : putK L (k + 1) = putK L k ++ one p := by
  show (match L[k]? with | some p => putK L k ++ one p | none => putK L k) = _
  rw [h]
theorem cod_succ {L : List Pp} {k : Nat} {p : Pp} (h : L[k]? = some p) (h0 : codK L k = 0) : codK L (k + 1) = stp L k p := by
  show (if codK L k = 0 then (match L[k]? with | some p => stp L k p | none => 0) else codK L k) = _
  rw [if_pos h0, h]
theorem cod_stays {L : List Pp} {k : Nat} (h : codK L k ≠ 0) : ∀ d, codK L (k + d) = codK L k
  | 0 => rfl
  | d + 1 => by
    have ih := cod_stays h d
    show (if codK L (k + d) = 0 then (match L[k + d]? with | some p => stp L (k + d) p | none => 0) else codK L (k + d)) = _
    rw [ih, if_neg h]
theorem cod_last {L : List Pp} {k n : Nat} {c : Int} (h : codK L k = c) (hc : c ≠ 0) (hk : k ≤ n) : codK L n = c := by
  obtain ⟨d, rfl⟩ : ∃ d, n = k + d := ⟨n - k, by omega⟩
  rw [cod_stays (by rw [h]; exact hc), h]
theorem one_small (p : Pp) : (one p).size ≤ 131078 := by
  unfold one
  rw [ByteArray.size_append]
  have h1 := enc_small p.id
  have h2 := pvS_small p
  show (enc p.id).toArray.size + _ ≤ _
  simp only [List.size_toArray]
  omega
theorem put_small (L : List Pp) : ∀ k, (putK L k).size ≤ k * 131078
  | 0 => by simp [putK]; rfl
  | k + 1 => by
    have ih := put_small L k
    show (match L[k]? with | some p => putK L k ++ one p | none => putK L k).size ≤ _
    split
    · rename_i p _
      have := one_small p
      rw [ByteArray.size_append, Nat.succ_mul]; exact Nat.add_le_add ih this
    · exact Nat.le_trans ih (Nat.mul_le_mul_right _ (Nat.le_succ k))
/-- The code of properties, and their bytes. -/
def ppC (L : List Pp) : Int := if 64 < L.length then 149 else codK L L.length
def ppS (L : List Pp) : ByteArray := if ppC L = 0 then ⟨(enc (putK L L.length).size).toArray⟩ ++ putK L L.length else ⟨#[]⟩
theorem pp_long {L : List Pp} (h : 64 < L.length) : ppC L = 149 ∧ ppS L = ⟨#[]⟩ := by
  have e : ppC L = 149 := by unfold ppC; rw [if_pos h]
  exact ⟨e, by unfold ppS; rw [e, if_neg (by decide)]⟩
theorem pp_bad {L : List Pp} {c : Int} (h : ¬ 64 < L.length) (hc : codK L L.length = c) (h0 : c ≠ 0) : ppC L = c ∧ ppS L = ⟨#[]⟩ := by
  have e : ppC L = c := by unfold ppC; rw [if_neg h, hc]
  exact ⟨e, by unfold ppS; rw [e, if_neg h0]⟩
theorem pp_ok {L : List Pp} (h : ¬ 64 < L.length) (hc : codK L L.length = 0) : ppC L = 0 ∧ ppS L = ⟨(enc (putK L L.length).size).toArray⟩ ++ putK L L.length := by
  have e : ppC L = 0 := by unfold ppC; rw [if_neg h, hc]
  exact ⟨e, by unfold ppS; rw [e, if_pos rfl]⟩
end Go.Proofs.YtifbkfkieppacaaDoor
