/- Plain facts: no number's bytes begin another one's; a greater number takes no fewer bytes. -/
import Derived.Test.YtoojgcblgmipeaaBackPlain
import Derived.Laws.Strings
namespace Go.Proofs.Ytoojgcblgmipeaa.Pl
open Go.PlainAid (bt bt_nonneg bt_le get_bt bt_end)
theorem sz_mono {a b : Int} (h0 : 0 ≤ a) (h : a ≤ b) (h1 : b ≤ 268435455) : sz a ≤ sz b := by
  unfold sz
  rw [if_neg (show ¬ (a < 0 ∨ 268435455 < a) by omega), if_neg (show ¬ (b < 0 ∨ 268435455 < b) by omega)]
  repeat' split
  all_goals omega
theorem enc_room {n : Int} (h0 : 0 ≤ n) (h1 : n ≤ 268435455) {r : Nat} (hr : sz n = r + 1) : n < 128 ^ (r + 1) ∧ (0 < r → 128 ^ r ≤ n) := by
  have hp := sz_pos h0 h1
  obtain rfl | rfl | rfl | rfl : r = 0 ∨ r = 1 ∨ r = 2 ∨ r = 3 := by omega
  all_goals
    unfold sz at hr
    rw [if_neg (by omega)] at hr
    refine ⟨?_, ?_⟩
    all_goals simp
    all_goals (repeat' split at hr)
    all_goals omega
theorem get_of {s : ByteArray} {n : Int} (h0 : 0 ≤ n) (h1 : n ≤ 268435455) (hlen : (enc n).length ≤ s.size) (hb : ∀ j (h : j < (enc n).length), bt s j = (((enc n)[j]).toNat : Int)) : getV s 0 = (n, sz n, 0) := by
  have hp := sz_pos h0 h1
  obtain ⟨r, hr⟩ : ∃ r : Nat, sz n = r + 1 := ⟨(sz n - 1).toNat, by omega⟩
  have hlt := enc_room h0 h1 hr
  have he : enc n = vb n (r + 1) := by unfold enc; rw [hr]; rfl
  have := gi_vb s (r + 1) 4 0 0 n 0 (by omega) (by omega) h0 hlt.1 (fun hc => by simp only [Nat.add_sub_cancel]; exact hlt.2 (by omega)) (fun j hj => by
    rw [Nat.zero_add]
    have hj2 : j < (enc n).length := by rw [he]; exact hj
    rw [hb _ hj2]
    congr 2
    have e2 : ∀ (l l' : List UInt8) (hl : j < l.length) (hll : l = l'), l[j] = l'[j]'(hll ▸ hl) := by intro l l' hl hll; subst hll; rfl
    exact e2 _ _ _ he) (by rw [he, vb_length] at hlen; omega)
  rw [show (0 : Int) = ((0 : Nat) : Int) from rfl, getV_ok (by omega), this, hr]
  simp
theorem enc_prefix {a b : Int} (a0 : 0 ≤ a) (h : a < b) (b1 : b ≤ 268435455) : (⟨(enc b).toArray⟩ : ByteArray).extract 0 (enc a).length ≠ ⟨(enc a).toArray⟩ := by
  intro he
  have hm := sz_mono a0 (Int.le_of_lt h) b1
  have la := enc_length a
  have lb := enc_length b
  have hsz : (⟨(enc b).toArray⟩ : ByteArray).size = (enc b).length := by simp [ByteArray.size]
  have g1 := get_of (s := ⟨(enc b).toArray⟩) a0 (by omega) (by omega) (fun j hj => by
    rw [bt_list _ _ (by omega)]
    congr 2
    have e1 : ((enc b).take (enc a).length) = enc a := by
      have := congrArg (fun s : ByteArray => s.data.toList) he
      simpa using this
    have e2 : ((enc b).take (enc a).length)[j]'(by rw [e1]; exact hj) = (enc a)[j] := by
      have e3 : ∀ (l l' : List UInt8) (hl : j < l.length) (hll : l = l'), l[j] = l'[j]'(hll ▸ hl) := by intro l l' hl hll; subst hll; rfl
      exact e3 _ _ _ e1
    rw [← e2, List.getElem_take])
  have g2 := get_enc (n := b) (by omega) b1
  rw [g1] at g2
  injection g2 with h3
  omega
theorem orders_fin {X Y : Int} (h0 : 0 ≤ X) (h : X ≤ Y) (h1 : Y ≤ 268435455) :
    (X == Y || decide (sz Y < sz X) || !((⟨(enc Y).toArray⟩ : ByteArray).extract 0 (sz X).toNat).toList == enc X) = true := by
  by_cases he : X = Y
  · subst he; simp
  · have hp := enc_prefix (a := X) (b := Y) h0 (by omega) h1
    have hl : (sz X).toNat = (enc X).length := (enc_length X).symm
    rw [hl]
    have : ((⟨(enc Y).toArray⟩ : ByteArray).extract 0 (enc X).length).toList ≠ enc X := by
      intro hc
      apply hp
      rw [ByteArray.toList_eq] at hc
      apply ByteArray.ext
      apply Array.ext'
      exact hc
    have h2 : (((⟨(enc Y).toArray⟩ : ByteArray).extract 0 (enc X).length).toList == enc X) = false := by simpa using this
    rw [h2]
    simp
end Go.Proofs.Ytoojgcblgmipeaa.Pl
