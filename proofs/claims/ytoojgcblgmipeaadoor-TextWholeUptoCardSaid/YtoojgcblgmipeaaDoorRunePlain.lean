/- Plain facts: a text and the list of its characters, by Go's own decoder and encoder. No program in sight. -/
import Derived.Test.YtoojgcblgmipeaaDoorTextMore
import Derived.Laws.Cover4
import Derived.Laws.IdiomStrings
namespace Go.Proofs.YtoojgcblgmipeaaDoor.Pl
open Go.PlainAid (bt bt_nonneg bt_le get_bt bt_end)

theorem enc1 {b0 : Nat} (h : b0 < 128) : Utf8.encode (b0 : Int) = ⟨#[UInt8.ofNat b0]⟩ := by
  unfold Utf8.encode
  have hv : Utf8.valid (b0 : Int) = true := (valid_iff b0).2 (.inl (by omega))
  simp only [hv, if_true, Int.toNat_natCast]
  rw [if_pos h]
theorem enc2 {b0 b1 : Nat} (h0 : b0 / 32 = 6) (h1 : b1 / 64 = 2) (h : b0 % 32 * 64 + b1 % 64 ≥ 128) :
    Utf8.encode ((b0 % 32 * 64 + b1 % 64 : Nat) : Int) = ⟨#[UInt8.ofNat b0, UInt8.ofNat b1]⟩ := by
  unfold Utf8.encode
  have hv : Utf8.valid ((b0 % 32 * 64 + b1 % 64 : Nat) : Int) = true := (valid_iff _).2 (.inl (by omega))
  simp only [hv, if_true, Int.toNat_natCast]
  rw [if_neg (by omega), if_pos (by omega)]
  rw [show 192 + (b0 % 32 * 64 + b1 % 64) / 64 = b0 by omega, show 128 + (b0 % 32 * 64 + b1 % 64) % 64 = b1 by omega]
theorem enc3 {b0 b1 b2 : Nat} (h0 : b0 / 16 = 14) (h1 : b1 / 64 = 2) (h2 : b2 / 64 = 2) (h : b0 % 16 * 4096 + b1 % 64 * 64 + b2 % 64 ≥ 2048)
    (hv : Utf8.valid ((b0 % 16 * 4096 + b1 % 64 * 64 + b2 % 64 : Nat) : Int) = true) :
    Utf8.encode ((b0 % 16 * 4096 + b1 % 64 * 64 + b2 % 64 : Nat) : Int) = ⟨#[UInt8.ofNat b0, UInt8.ofNat b1, UInt8.ofNat b2]⟩ := by
  unfold Utf8.encode
  simp only [hv, if_true, Int.toNat_natCast]
  rw [if_neg (by omega), if_neg (by omega), if_pos (by omega)]
  rw [show 224 + (b0 % 16 * 4096 + b1 % 64 * 64 + b2 % 64) / 4096 = b0 by omega, show 128 + (b0 % 16 * 4096 + b1 % 64 * 64 + b2 % 64) / 64 % 64 = b1 by omega,
    show 128 + (b0 % 16 * 4096 + b1 % 64 * 64 + b2 % 64) % 64 = b2 by omega]
theorem enc4 {b0 b1 b2 b3 : Nat} (h0 : b0 / 8 = 30) (h1 : b1 / 64 = 2) (h2 : b2 / 64 = 2) (h3 : b3 / 64 = 2) (h : b0 % 8 * 262144 + b1 % 64 * 4096 + b2 % 64 * 64 + b3 % 64 ≥ 65536)
    (hv : Utf8.valid ((b0 % 8 * 262144 + b1 % 64 * 4096 + b2 % 64 * 64 + b3 % 64 : Nat) : Int) = true) :
    Utf8.encode ((b0 % 8 * 262144 + b1 % 64 * 4096 + b2 % 64 * 64 + b3 % 64 : Nat) : Int) = ⟨#[UInt8.ofNat b0, UInt8.ofNat b1, UInt8.ofNat b2, UInt8.ofNat b3]⟩ := by
  unfold Utf8.encode
  simp only [hv, if_true, Int.toNat_natCast]
  rw [if_neg (by omega), if_neg (by omega), if_neg (by omega)]
  rw [show 240 + (b0 % 8 * 262144 + b1 % 64 * 4096 + b2 % 64 * 64 + b3 % 64) / 262144 = b0 by omega, show 128 + (b0 % 8 * 262144 + b1 % 64 * 4096 + b2 % 64 * 64 + b3 % 64) / 4096 % 64 = b1 by omega,
    show 128 + (b0 % 8 * 262144 + b1 % 64 * 4096 + b2 % 64 * 64 + b3 % 64) / 64 % 64 = b2 by omega, show 128 + (b0 % 8 * 262144 + b1 % 64 * 4096 + b2 % 64 * 64 + b3 % 64) % 64 = b3 by omega]
/-- What is decoded, encoded again. -/
theorem enc_dec4 (b0 b1 b2 b3 : Nat) (c1 c2 c3 : Bool) (h1 : c1 = true → b1 / 64 = 2) (h2 : c2 = true → b2 / 64 = 2) (h3 : c3 = true → b3 / 64 = 2) (h : tk (dec4 b0 b1 b2 b3 c1 c2 c3) ≠ 0) :
    Utf8.encode ((dec4 b0 b1 b2 b3 c1 c2 c3).1 : Int) = ⟨(([UInt8.ofNat b0, UInt8.ofNat b1, UInt8.ofNat b2, UInt8.ofNat b3]).take (dec4 b0 b1 b2 b3 c1 c2 c3).2).toArray⟩ := by
  unfold dec4 at h ⊢
  by_cases k1 : b0 < 128
  · rw [if_pos k1]; exact enc1 k1
  · rw [if_neg k1] at h ⊢
    by_cases k2 : (b0 / 32 == 6 && c1) = true
    · rw [if_pos k2] at h ⊢
      by_cases k3 : b0 % 32 * 64 + b1 % 64 ≥ 128
      · rw [if_pos k3]
        simp only [Bool.and_eq_true, beq_iff_eq] at k2
        exact enc2 k2.1 (h1 k2.2) k3
      · rw [if_neg k3] at h; exact absurd tk_bad h
    · rw [if_neg k2] at h ⊢
      by_cases k4 : (b0 / 16 == 14 && c1 && c2) = true
      · rw [if_pos k4] at h ⊢
        by_cases k5 : (decide (b0 % 16 * 4096 + b1 % 64 * 64 + b2 % 64 ≥ 2048) && Utf8.valid ((b0 % 16 * 4096 + b1 % 64 * 64 + b2 % 64 : Nat) : Int)) = true
        · rw [if_pos k5]
          simp only [Bool.and_eq_true, beq_iff_eq] at k4
          rw [Bool.and_eq_true, decide_eq_true_eq] at k5
          exact enc3 k4.1.1 (h1 k4.1.2) (h2 k4.2) k5.1 k5.2
        · rw [if_neg k5] at h; exact absurd tk_bad h
      · rw [if_neg k4] at h ⊢
        by_cases k6 : (b0 / 8 == 30 && c1 && c2 && c3) = true
        · rw [if_pos k6] at h ⊢
          by_cases k7 : (decide (b0 % 8 * 262144 + b1 % 64 * 4096 + b2 % 64 * 64 + b3 % 64 ≥ 65536) && Utf8.valid ((b0 % 8 * 262144 + b1 % 64 * 4096 + b2 % 64 * 64 + b3 % 64 : Nat) : Int)) = true
          · rw [if_pos k7]
            simp only [Bool.and_eq_true, beq_iff_eq] at k6
            rw [Bool.and_eq_true, decide_eq_true_eq] at k7
            exact enc4 k6.1.1.1 (h1 k6.1.1.2) (h2 k6.1.2) (h3 k6.2) k7.1 k7.2
          · rw [if_neg k7] at h; exact absurd tk_bad h
        · rw [if_neg k6] at h; exact absurd tk_bad h
theorem extract_snoc (s : ByteArray) {a : Nat} (h : a < s.size) : s.extract 0 (a + 1) = s.extract 0 a ++ ⟨#[s.get! a]⟩ := by
  have hs : s.size = s.data.size := rfl
  apply ByteArray.ext
  rw [ByteArray.data_append, ByteArray.data_extract, ByteArray.data_extract, Array.extract_succ_right (by omega) (by omega)]
  show _ = s.data.extract 0 a ++ #[s.data[a]!]
  rw [getElem!_pos s.data a (by omega)]
  rfl
theorem app2 (r : ByteArray) (x y : UInt8) : r ++ ⟨#[x]⟩ ++ ⟨#[y]⟩ = r ++ (⟨#[x, y]⟩ : ByteArray) := by apply ByteArray.ext; apply Array.ext'; simp [ByteArray.data_append]
theorem app3 (r : ByteArray) (x y z : UInt8) : r ++ ⟨#[x]⟩ ++ ⟨#[y]⟩ ++ ⟨#[z]⟩ = r ++ (⟨#[x, y, z]⟩ : ByteArray) := by apply ByteArray.ext; apply Array.ext'; simp [ByteArray.data_append]
theorem app4 (r : ByteArray) (x y z t : UInt8) : r ++ ⟨#[x]⟩ ++ ⟨#[y]⟩ ++ ⟨#[z]⟩ ++ ⟨#[t]⟩ = r ++ (⟨#[x, y, z, t]⟩ : ByteArray) := by apply ByteArray.ext; apply Array.ext'; simp [ByteArray.data_append]
theorem snd_two {p : Bool} {x : Nat} (h : (p && x == 2) = true) : x = 2 := by
  simp only [Bool.and_eq_true, beq_iff_eq] at h
  exact h.2
/-- A character's own bytes, encoded again. -/
theorem enc_next (s : ByteArray) {a : Nat} (h : nx s a ≠ 0) : s.extract 0 (a + nx s a) = s.extract 0 a ++ Utf8.encode ((Utf8.decode s a).1 : Int) ∧ (Utf8.decode s a).1 ≠ 0 ∧ (Utf8.decode s a).2 = nx s a := by
  have hle := nx_le s a h
  have hle4 := nx_le4 s a
  have hnd := nx_decode s a
  have htk : tk (Utf8.decode s a) ≠ 0 := by unfold tk; rw [← hnd]; exact h
  by_cases hc : (Utf8.decode s a).1 = 0 ∨ ((Utf8.decode s a).1 = 65533 ∧ (Utf8.decode s a).2 < 2)
  · rw [if_pos hc] at hnd; exact absurd hnd h
  · rw [if_neg hc] at hnd
    refine ⟨?_, fun h0 => hc (.inl h0), hnd.symm⟩
    rw [decode_dec4] at htk
    have he := enc_dec4 _ _ _ _ _ _ _ (snd_two) (snd_two) (snd_two) htk
    rw [← decode_dec4, ← hnd] at he
    rw [he]
    simp only [UInt8.ofNat_toNat]
    have hn1 : nx s a = 1 ∨ nx s a = 2 ∨ nx s a = 3 ∨ nx s a = 4 := by omega
    rcases hn1 with e | e | e | e
    all_goals rw [e] at hle ⊢
    · rw [extract_snoc s (by omega)]; rfl
    · rw [show a + 2 = a + 1 + 1 from rfl, extract_snoc s (by omega), extract_snoc s (by omega), app2]; rfl
    · rw [show a + 3 = a + 1 + 1 + 1 from rfl, extract_snoc s (by omega), extract_snoc s (by omega), extract_snoc s (by omega), app3]; rfl
    · rw [show a + 4 = a + 1 + 1 + 1 + 1 from rfl, extract_snoc s (by omega), extract_snoc s (by omega), extract_snoc s (by omega), extract_snoc s (by omega), app4]; rfl

/-- The list of the characters from a place on. -/
def rnl (s : ByteArray) : Nat → Nat → List Int
  | 0, _ => []
  | f + 1, i => if i < s.size then ((Utf8.decode s i).1 : Int) :: rnl s f (i + (Utf8.decode s i).2) else []
theorem runesFrom_rnl (s : ByteArray) : ∀ (f i : Nat) (acc : Array Value), Conv.runesFrom s f i acc = acc ++ ((rnl s f i).map (Value.int .i32)).toArray := by
  intro f
  induction f with
  | zero => intro i acc; simp [Conv.runesFrom, rnl]
  | succ f ih =>
    intro i acc
    unfold Conv.runesFrom rnl
    by_cases h : i < s.size
    · rw [if_pos h, if_pos h]
      generalize Utf8.decode s i = p
      obtain ⟨c, n⟩ := p
      show Conv.runesFrom s f (i + n) (acc.push (.int .i32 (Int.ofNat c))) = _
      rw [ih]
      apply Array.ext'
      simp
    · rw [if_neg h, if_neg h]
      simp
/-- A text is what the conversion to characters and back leaves; its characters are counted; none is a nought. -/
theorem rnl_text (s : ByteArray) : ∀ (f a : Nat), s.size ≤ a + f → a ≤ s.size → (flt s f a).2 = false →
    (rnl s f a).length = rns s f a ∧ (∀ x ∈ rnl s f a, x ≠ 0) ∧ (rnl s f a).foldl (fun r n => r ++ Utf8.encode n) (s.extract 0 a) = s.extract 0 s.size := by
  intro f
  induction f with
  | zero =>
    intro a h1 h2 h3
    obtain rfl : a = s.size := by omega
    exact ⟨rfl, fun x hx => absurd hx (by simp [rnl]), rfl⟩
  | succ f ih =>
    intro a h1 h2 h3
    by_cases hk : a < s.size
    · by_cases hn : nx s a = 0
      · rw [flt_bad hk h1 hn] at h3; exact absurd h3 (by simp)
      · have hle := nx_le s a hn
        rw [flt_step hk h1 hn] at h3
        obtain ⟨e1, e2, e3⟩ := enc_next s hn
        obtain ⟨i1, i2, i3⟩ := ih (a + nx s a) (by omega) hle h3
        have hr : rnl s (f + 1) a = ((Utf8.decode s a).1 : Int) :: rnl s f (a + nx s a) := by
          conv => lhs; unfold rnl
          rw [if_pos hk, e3]
        rw [hr, rns_step hk h1 hn]
        refine ⟨by rw [List.length_cons, i1]; exact Nat.add_comm _ _, ?_, ?_⟩
        · intro x hx
          rcases List.mem_cons.1 hx with rfl | hx
          · omega
          · exact i2 x hx
        · rw [List.foldl_cons, ← e1, i3]
    · obtain rfl : a = s.size := by omega
      have hr : rnl s (f + 1) s.size = [] := by unfold rnl; rw [if_neg (by omega)]
      rw [hr, rns_end (by omega)]
      exact ⟨rfl, fun x hx => absurd hx (by simp), rfl⟩
theorem rnl_whole {s : ByteArray} (h : (flt s s.size 0).2 = false) : (rnl s s.size 0).length = rns s s.size 0 ∧ (∀ x ∈ rnl s s.size 0, x ≠ 0) ∧ runesBytes (rnl s s.size 0) = s := by
  obtain ⟨h1, h2, h3⟩ := rnl_text s s.size 0 (by omega) (by omega) h
  refine ⟨h1, h2, ?_⟩
  unfold runesBytes
  have e : s.extract 0 0 = ByteArray.empty := by apply ByteArray.ext; simp
  rw [e] at h3
  rw [h3]
  simp
end Go.Proofs.YtoojgcblgmipeaaDoor.Pl
