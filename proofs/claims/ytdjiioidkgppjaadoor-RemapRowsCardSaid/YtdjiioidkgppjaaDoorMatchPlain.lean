/- Plain facts for the walks of Match; no program in sight. -/
import Derived.Test.YtdjiioidkgppjaaDoorFokPlain
namespace Go.Proofs.YtdjiioidkgppjaaDoor.Pl
open Go

theorem filtC_ok {s : ByteArray} (h : filtB s = true) : filtC s = 0 := by unfold filtC; rw [h]; rfl
theorem filtC_bad {s : ByteArray} (h : filtB s = false) : filtC s = 143 := by unfold filtC; rw [h]; rfl
theorem nameC_ok {s : ByteArray} (h : nameB s = true) : nameC s = 0 := by unfold nameC; rw [h]; rfl
theorem nameC_bad {s : ByteArray} (h : nameB s = false) : nameC s = 144 := by unfold nameC; rw [h]; rfl
theorem filt_szd2 {s : ByteArray} (h : filtB s = true) : szd s = true ∧ fok (lev s.data.toList) = true := by
  unfold filtB at h; simpa using h
theorem name_szd {s : ByteArray} (h : nameB s = true) : szd s = true := by
  unfold nameB at h
  simp only [Bool.and_eq_true] at h
  exact h.1
theorem mt_filt {F N : ByteArray} (h : filtB F = false) : mtB F N = false := by unfold mtB; rw [h]; rfl
theorem mt_name {F N : ByteArray} (h : nameB N = false) : mtB F N = false := other_match h
theorem mt_dol {F N : ByteArray} (h : dol F.data.toList N.data.toList = true) : mtB F N = false := by unfold mtB; rw [h]; simp
theorem mt_lev {F N : ByteArray} (h1 : filtB F = true) (h2 : nameB N = true) (h3 : dol F.data.toList N.data.toList = false) : mtB F N = mtL (lev F.data.toList) (lev N.data.toList) := by
  unfold mtB; rw [h1, h2, h3]; rfl
theorem head_at (s : ByteArray) (h : 0 < s.size) : s.data.toList.head? = some s[0] := by
  rw [List.head?_eq_getElem?]
  exact Lib.data_getElem? s 0 h
/-- The first bytes, in numbers. -/
theorem dol_at (F N : ByteArray) (hF : 0 < F.size) (hN : 0 < N.size) : dol F.data.toList N.data.toList = (((N[0].toNat : Int) == 36) && (((F[0].toNat : Int) == 43) || ((F[0].toNat : Int) == 35))) := by
  have e : ∀ (b : UInt8) (c : UInt8) (x : Int), x = (c.toNat : Int) → (some b == some c) = ((b.toNat : Int) == x) := by
    intro b c x hx
    rw [Bool.eq_iff_iff]
    simp only [beq_iff_eq, Option.some.injEq, hx]
    constructor
    · intro h; rw [h]
    · intro h; exact UInt8.toNat_inj.1 (by omega)
  unfold dol
  rw [head_at F hF, head_at N hN, e _ 36 36 rfl, e _ 43 43 rfl, e _ 35 35 rfl]
/-- The first byte, as a string. -/
theorem head_one (F : ByteArray) (hF : 0 < F.size) (c : UInt8) (x : Int) (hx : x = (c.toNat : Int)) : ((F.extract 0 1).toList == [c]) = ((F[0].toNat : Int) == x) := by
  have h1 : (F.extract 0 1).toList = [F[0]] := by
    rw [ByteArray.toList_eq, Lib.extract_data]
    have := head_at F hF
    cases hd : F.data.toList with
    | nil => rw [hd] at this; simp at this
    | cons a r =>
      rw [hd] at this
      simp at this
      rw [← this]
      rfl
  rw [h1, Bool.eq_iff_iff]
  simp only [beq_iff_eq, List.cons.injEq, and_true, hx]
  constructor
  · intro h; rw [h]
  · intro h; exact UInt8.toNat_inj.1 (by omega)
theorem last_at {L : List Bs} {x : Bs} {n : Nat} (hn : L.length = n + 1) (h : L[n]? = some x) : allB L = (x == [35]) := by
  unfold allB
  rw [List.getLast?_eq_getElem?, hn]
  show (L[n]? == some [35]) = _
  rw [h]
  rfl
theorem cutL_all {L : List Bs} (h : allB L = true) : cutL L = L.dropLast := by unfold cutL; rw [h]; rfl
theorem cutL_not {L : List Bs} (h : allB L = false) : cutL L = L := by unfold cutL; rw [h]; rfl
end Go.Proofs.YtdjiioidkgppjaaDoor.Pl
