/- Parts of the proof, joined: Aux, TextPlain, TopicPlain, TextMore, TextApp, TopicLaws. -/
import Derived.WalkKit
import Derived.Maps.AppendAt
import Derived.Laws.IdiomStrings
import Derived.Laws.BytesArg
import Derived.Lib.Hide
import GoSem.ClaimJoined
import Derived.PlainAid
import Derived.Laws.BitsAllLaws
import Derived.Laws.BitsLemmas
import Derived.Shelf.Unicode.DecodeAny
import Derived.Laws.Strings
import Derived.Lib.SplitLaws
import Derived.Lib.Join
import Derived.Lib.IndexBytes
/- Helpers for walks, over whatever program: one element appended to a row of the call's own; a row of bytes as a string. -/
namespace Go.Proofs.YtenoaonlngndpaaDoor
open Go.RowKit
theorem ret_int {k : IntKind} {a b : Int} (h : a = b) : Ending.returned (.int k a) = .returned (.int k b) := by rw [h]
theorem ret_bool {a b : Bool} (h : a = b) : Ending.returned (.bool a) = .returned (.bool b) := by rw [h]
theorem ret2 {a b a' b' : Value} (h1 : a = a') (h2 : b = b') : Ending.returned (.tuple #[a, b]) = .returned (.tuple #[a', b']) := by rw [h1, h2]
theorem ret3 {a b c a' b' c' : Value} (h1 : a = a') (h2 : b = b') (h3 : c = c') : Ending.returned (.tuple #[a, b, c]) = .returned (.tuple #[a', b', c']) := by rw [h1, h2, h3]
theorem val_str {l l' : List UInt8} (h : l = l') : Value.string ⟨l.toArray⟩ = Value.string ⟨l'.toArray⟩ := by rw [h]
theorem val_bytes {s s' : ByteArray} (h : s = s') : Value.string s = Value.string s' := by rw [h]
theorem ret_bytes {s s' : ByteArray} (h : s = s') : Ending.returned (.string s) = .returned (.string s') := by rw [h]
/-- How many bytes a string has. -/
def strSize : Value → Nat
  | .string s => s.size
  | _ => 0
theorem val_int {k : IntKind} {a b : Int} (h : a = b) : Value.int k a = Value.int k b := by rw [h]
theorem val_bool {a b : Bool} (h : a = b) : Value.bool a = Value.bool b := by rw [h]
/-- A number's lowest eight bits, as a byte. -/
def by8 (n : Int) : UInt8 := UInt8.ofNat (n % 256).toNat
theorem by8_toNat (n : Int) : ((by8 n).toNat : Int) = n % 256 := by
  unfold by8
  rw [UInt8.toNat_ofNat']
  omega
theorem by8_of {x : Int} (h0 : 0 ≤ x) (h1 : x < 256) : UInt8.ofNat x.toNat = by8 x := by
  unfold by8
  rw [Int.emod_eq_of_lt h0 h1]
/-- A string with one byte more behind it. -/
theorem str_snoc (l : List UInt8) {x : Int} (h0 : 0 ≤ x) (h1 : x < 256) : Value.string ((⟨l.toArray⟩ : ByteArray) ++ ⟨#[UInt8.ofNat x.toNat]⟩) = Value.string ⟨(l ++ [by8 x]).toArray⟩ := by
  rw [by8_of h0 h1]
  refine congrArg Value.string ?_
  apply ByteArray.ext
  simp
/-- A string with one byte more ahead of it. -/
theorem str_cons (l : List UInt8) {x : Int} (h0 : 0 ≤ x) (h1 : x < 256) : Value.string ((⟨#[UInt8.ofNat x.toNat]⟩ : ByteArray) ++ ⟨l.toArray⟩) = Value.string ⟨(by8 x :: l).toArray⟩ := by
  rw [by8_of h0 h1]
  refine congrArg Value.string ?_
  apply ByteArray.ext
  simp
/-- What the form's own reach says of a string. -/
theorem size_reach {a : ByteArray} (h : a.data.toList.length ≤ reachBytes) : a.size ≤ 140737488351232 := by
  have e : reachBytes = 140737488351232 := by decide
  have e2 : a.size = a.data.toList.length := rfl
  rw [e2, ← e]
  exact h
theorem i64_bd {n : Int} (h : (Lit.int .i64 n).wf = true) : -9223372036854775808 ≤ n ∧ n ≤ 9223372036854775807 := by
  simpa [Lit.wf, IntKind.min, IntKind.max, IntKind.signed, IntKind.bits] using h
section
variable {P : Program}

/-- 'xs = append(xs, u)': one element of one cell. -/
theorem wpList_push {W w : World} {ops : Array Oper} {rest : List Oper} {o : Oper} {a : Act} {Q : Exit → Act → World → Prop} (s x : Operand) (t e : TypeId) (i : TypeInfo) (z : Value) (bytes : Nat)
    (hgd : o.guard = none) (ho : o.op = .call { callee := .builtin .append, args := #[s, x], argTypes := #[t, t] })
    (ht : P.underlying t = some (.slice e)) (hi : P.info? e = some i) (hz : i.zero = some z)
    (hsize : i.size = 1) (hby : i.bytes = bytes) (hzs : z.cells.size = 1)
    (B : Nat) (v : Value) (n : Nat) (xs : List Value) (u : Value) (hs : a.eval s = v) (hx : a.eval x = .slice (some ⟨w.heap.size, 0, none⟩) 1 1)
    (hown : w.ownsRow B e 1 v n xs) (hbel : Below B W w) (hB : B ≤ w.heap.size) (hu : u.oneCell' = true)
    (h63 : n + 1 ≤ maxLen) (hbytes : (n + 1) * bytes ≤ 140737488355328)
    (h : ∀ v' w', w'.ownsRow B e 1 v' (n + 1) (xs ++ [u]) → Below B W w' → w.heap.size < w'.heap.size → v' ≠ .slice none 0 0 → wpList P ops Q rest (a.put o.dst v') w') :
    wpList P ops Q (o :: rest) a (w.alloc (.cells #[u] e)) := by
  refine wpList_append_own (w.alloc (.cells #[u] e)) hgd s x t ho B e i z 1 bytes ht hi hz hsize hby hzs (by decide) v n xs hs (hown.alloc _) ⟨w.heap.size, 0, none⟩ 1 1 [u] hx rfl
    (cell_one_new _ _ _) (by intro y hy; simp at hy; subst hy; exact hu) h63 hbytes (by simp; omega) ?_
  intro v' w' hown' hg hn
  refine h v' w' hown' ?_ ?_ ?_
  · exact (hbel.alloc hB _).grown hg (by simp; omega) fun k hk => (hown.lt k hk).1
  · have := hg.size
    simp at this
    omega
  · intro hv
    have := (hn.1 hv).2
    omega

/-- The cells of a block that has just been laid. -/
theorem cells_new (W : World) (k : IntKind) (t : TypeId) (l : List Int) (b : Nat) (h : b = W.heap.size) :
    ∀ j, j < l.length → (W.alloc (.cells (l.map (Value.int k)).toArray t)).cell? ⟨b, j, none⟩ = some (.int k (l.getD j 0)) := by
  intro j hj
  subst h
  rw [World.cell?_alloc_mark]
  simp [List.getD, List.getElem?_eq_getElem hj]

/-- Cells of bytes. -/
def cells8 (l : List UInt8) : List Value := l.map fun b => Value.int .u8 (b.toNat : Int)
theorem cells8_length (l : List UInt8) : (cells8 l).length = l.length := by simp [cells8]

theorem cells8_snoc (l : List UInt8) (n : Int) (x : Int) (h : x = n % 256) : cells8 l ++ [Value.int .u8 x] = cells8 (l ++ [by8 n]) := by
  subst h
  simp [cells8, by8_toNat]

/-- 'string(b)' of a row of the call's own. -/
theorem run_string_own {w : World} (src dst e : TypeId) (B : Nat) (v : Value) (n : Nat) (l : List UInt8) (hs : P.underlying src = some (.slice e)) (he : P.underlying e = some (.int .u8)) (hd : P.underlying dst = some .string)
    (hown : w.ownsRow B e 1 v n (cells8 l)) : (convert src dst v).run P w = .ok (.string ⟨l.toArray⟩) w := by
  rcases hown.2 with ⟨rfl, hx⟩ | ⟨g, cap, cur, rfl, _, _, hnc, _⟩
  · have : l = [] := by
      have := hown.1
      rw [cells8_length] at this
      exact List.eq_nil_of_length_eq_zero (by omega)
    subst this
    rw [run_convert_bytes_nil w src e hs he 0 0 dst hd]
    rfl
  · have hn : l.length = n := by have := hown.1; rw [cells8_length] at this; omega
    subst hn
    refine run_convert_bytes_back w src dst e ⟨g, 0, none⟩ cap l hs he hd fun j hj => ?_
    refine hown.cells (g := g) rfl j _ ?_
    simp [cells8, List.getElem?_eq_getElem hj]

/-- 'string([]byte{x})'. -/
theorem run_string_one {w : World} (src dst e : TypeId) (x : Int) (hs : P.underlying src = some (.slice e)) (he : P.underlying e = some (.int .u8)) (hd : P.underlying dst = some .string) :
    (convert src dst (.slice (some ⟨w.heap.size, 0, none⟩) 1 1)).run P (w.alloc (.cells #[.int .u8 x] e)) = .ok (.string ⟨#[UInt8.ofNat x.toNat]⟩) (w.alloc (.cells #[.int .u8 x] e)) := by
  refine run_convert_bytes_arg (w.alloc (.cells #[.int .u8 x] e)) src e hs he w.heap.size 0 1 1 [x] rfl (fun i hi => ?_) dst hd
  obtain rfl : i = 0 := by omega
  exact cell_one_new w (.int .u8 x) e 0 _ rfl

theorem ofInt_i64 (a : Nat) (ha : a < 9223372036854775808) : (BitVec.ofInt 64 (a : Int)).toNat = a := by
  rw [BitVec.ofInt_natCast, BitVec.toNat_ofNat]; exact Nat.mod_eq_of_lt (by omega)
theorem i64_and_nat (a b : Nat) (ha : a < 9223372036854775808) (hb : b < 9223372036854775808) : bits .and .i64 (a : Int) (b : Int) = ((a &&& b : Nat) : Int) := by
  have hx : a &&& b < 2 ^ 63 := Nat.and_lt_two_pow _ (by omega)
  show IntKind.i64.wrap ((BitVec.ofInt 64 (a : Int) &&& BitVec.ofInt 64 (b : Int)).toNat : Int) = _
  rw [BitVec.toNat_and, ofInt_i64 a ha, ofInt_i64 b hb, IntKind.wrap_i64]
  omega
theorem i64_or_nat (a b : Nat) (ha : a < 9223372036854775808) (hb : b < 9223372036854775808) : bits .or .i64 (a : Int) (b : Int) = ((a ||| b : Nat) : Int) := by
  have hx : a ||| b < 2 ^ 63 := Nat.or_lt_two_pow (by omega) (by omega)
  show IntKind.i64.wrap ((BitVec.ofInt 64 (a : Int) ||| BitVec.ofInt 64 (b : Int)).toNat : Int) = _
  rw [BitVec.toNat_or, ofInt_i64 a ha, ofInt_i64 b hb, IntKind.wrap_i64]
  omega
/-- 'n | c << k' where n lies below. -/
theorem or_add (k : Nat) {n c : Int} (h0 : 0 ≤ n) (h1 : n < 2 ^ k) (c0 : 0 ≤ c) (hb : 2 ^ k * c + n < 9223372036854775808) : bits .or .i64 n (2 ^ k * c) = n + 2 ^ k * c := by
  obtain ⟨a, rfl⟩ := Int.eq_ofNat_of_zero_le h0
  obtain ⟨b, rfl⟩ := Int.eq_ofNat_of_zero_le c0
  have e : ((2 : Int) ^ k * (b : Int)) = ((2 ^ k * b : Nat) : Int) := by simp
  have ha : a < 2 ^ k := by
    have : ((a : Nat) : Int) < ((2 ^ k : Nat) : Int) := by simpa using h1
    exact Int.ofNat_lt.1 this
  rw [e] at hb ⊢
  rw [i64_or_nat _ _ (by omega) (by omega), Nat.or_comm, ← Nat.two_pow_add_eq_or_of_lt ha b]
  omega
/-- 'c << k | n' where n lies below. -/
theorem or_low (k : Nat) {n c : Int} (h0 : 0 ≤ n) (h1 : n < 2 ^ k) (c0 : 0 ≤ c) (hb : 2 ^ k * c + n < 9223372036854775808) : bits .or .i64 (2 ^ k * c) n = 2 ^ k * c + n := by
  obtain ⟨a, rfl⟩ := Int.eq_ofNat_of_zero_le h0
  obtain ⟨b, rfl⟩ := Int.eq_ofNat_of_zero_le c0
  have e : ((2 : Int) ^ k * (b : Int)) = ((2 ^ k * b : Nat) : Int) := by simp
  have ha : a < 2 ^ k := by
    have : ((a : Nat) : Int) < ((2 ^ k : Nat) : Int) := by simpa using h1
    exact Int.ofNat_lt.1 this
  rw [e] at hb ⊢
  rw [i64_or_nat _ _ (by omega) (by omega), ← Nat.two_pow_add_eq_or_of_lt ha b]
  omega
/-- 'x & 127' of a number that is not negative. -/
theorem and_127 {x : Int} (h : 0 ≤ x) (h1 : x ≤ 9223372036854775807) : bits .and .i64 x 127 = x % 128 := by
  obtain ⟨a, rfl⟩ := Int.eq_ofNat_of_zero_le h
  rw [show (127 : Int) = ((127 : Nat) : Int) from rfl, i64_and_nat a 127 (by omega) (by omega), nat_mask7]
  omega
/-- 'x | 128' of a byte below 128. -/
theorem or_128 {x : Int} (h : 0 ≤ x) (h1 : x < 128) : bits .or .u8 x 128 = x + 128 := by
  obtain ⟨a, rfl⟩ := Int.eq_ofNat_of_zero_le h
  rw [show (128 : Int) = ((128 : Nat) : Int) from rfl, u8_or_nat a 128 (by omega) (by omega), Nat.or_comm]
  have : 128 ||| a = 128 + a := by
    have := Nat.two_pow_add_eq_or_of_lt (i := 7) (b := a) (by omega) 1
    simpa using this.symm
  omega
end
end Go.Proofs.YtenoaonlngndpaaDoor

/- Plain facts about texts: how many bytes the character at a place has; faults, counts, cuts; no program in sight. -/
namespace Go.Proofs.YtenoaonlngndpaaDoor.Pl
open Go.PlainAid (bt bt_nonneg bt_le get_bt bt_end)

/-- Is there a byte from lo up to hi at a place? -/
def tl (s : ByteArray) (a : Nat) (lo hi : Int) : Bool := decide (a < s.size) && (decide (lo ≤ bt s a) && decide (bt s a ≤ hi))
/-- How many bytes the character at a place has; 0: there is none that may be. -/
def nx (s : ByteArray) (a : Nat) : Nat :=
  if 1 ≤ bt s a ∧ bt s a ≤ 127 then 1
  else if 194 ≤ bt s a ∧ bt s a ≤ 223 ∧ tl s (a + 1) 128 191 = true then 2
  else if 224 ≤ bt s a ∧ bt s a ≤ 239 ∧ tl s (a + 1) 128 191 = true ∧ tl s (a + 2) 128 191 = true then
    (if (bt s a = 224 ∧ tl s (a + 1) 160 191 = false) ∨ (bt s a = 237 ∧ tl s (a + 1) 128 159 = false) then 0 else 3)
  else if 240 ≤ bt s a ∧ bt s a ≤ 244 ∧ tl s (a + 1) 128 191 = true ∧ tl s (a + 2) 128 191 = true ∧ tl s (a + 3) 128 191 = true then
    (if (bt s a = 240 ∧ tl s (a + 1) 144 191 = false) ∨ (bt s a = 244 ∧ tl s (a + 1) 128 143 = false) then 0 else 4)
  else 0

theorem tl_iff {s : ByteArray} {a : Nat} {lo hi : Int} : tl s a lo hi = true ↔ a < s.size ∧ lo ≤ bt s a ∧ bt s a ≤ hi := by
  unfold tl
  simp only [Bool.and_eq_true, decide_eq_true_eq]
theorem tl_not {s : ByteArray} {a : Nat} {lo hi : Int} : tl s a lo hi = false ↔ ¬ (a < s.size ∧ lo ≤ bt s a ∧ bt s a ≤ hi) := by
  rw [← tl_iff]
  simp

theorem get!_bt (s : ByteArray) (k : Nat) : ((s.get! k).toNat : Int) = bt s k := by
  unfold bt
  by_cases h : k < s.size
  · rw [dif_pos h]
    congr 2
    show s.data[k]! = s[k]
    rw [getElem!_pos s.data k h]
    rfl
  · rw [dif_neg h]
    show ((s.data[k]!).toNat : Int) = 0
    rw [getElem!_neg s.data k h]
    rfl

/-- What the decoder gives, in numbers. -/
def dec4 (b0 b1 b2 b3 : Nat) (c1 c2 c3 : Bool) : Nat × Nat :=
  if b0 < 128 then (b0, 1)
  else if b0 / 32 == 6 && c1 then (if (b0 % 32) * 64 + b1 % 64 ≥ 128 then ((b0 % 32) * 64 + b1 % 64, 2) else (Utf8.runeError, 1))
  else if b0 / 16 == 14 && c1 && c2 then
    (if (b0 % 16) * 4096 + (b1 % 64) * 64 + b2 % 64 ≥ 2048 && Utf8.valid (((b0 % 16) * 4096 + (b1 % 64) * 64 + b2 % 64 : Nat) : Int) then ((b0 % 16) * 4096 + (b1 % 64) * 64 + b2 % 64, 3) else (Utf8.runeError, 1))
  else if b0 / 8 == 30 && c1 && c2 && c3 then
    (if (b0 % 8) * 262144 + (b1 % 64) * 4096 + (b2 % 64) * 64 + b3 % 64 ≥ 65536 && Utf8.valid (((b0 % 8) * 262144 + (b1 % 64) * 4096 + (b2 % 64) * 64 + b3 % 64 : Nat) : Int) then
      ((b0 % 8) * 262144 + (b1 % 64) * 4096 + (b2 % 64) * 64 + b3 % 64, 4) else (Utf8.runeError, 1))
  else (Utf8.runeError, 1)
theorem decode_dec4 (s : ByteArray) (a : Nat) : Utf8.decode s a = dec4 (s.get! a).toNat (s.get! (a + 1)).toNat (s.get! (a + 2)).toNat (s.get! (a + 3)).toNat
    (decide (a + 1 < s.size) && (s.get! (a + 1)).toNat / 64 == 2) (decide (a + 2 < s.size) && (s.get! (a + 2)).toNat / 64 == 2) (decide (a + 3 < s.size) && (s.get! (a + 3)).toNat / 64 == 2) := rfl
/-- The count, in numbers. -/
def nx4 (b0 b1 : Nat) (c1 c2 c3 : Bool) : Nat :=
  if 1 ≤ b0 ∧ b0 ≤ 127 then 1
  else if 194 ≤ b0 ∧ b0 ≤ 223 ∧ c1 = true then 2
  else if 224 ≤ b0 ∧ b0 ≤ 239 ∧ c1 = true ∧ c2 = true then (if (b0 = 224 ∧ b1 < 160) ∨ (b0 = 237 ∧ 159 < b1) then 0 else 3)
  else if 240 ≤ b0 ∧ b0 ≤ 244 ∧ c1 = true ∧ c2 = true ∧ c3 = true then (if (b0 = 240 ∧ b1 < 144) ∨ (b0 = 244 ∧ 143 < b1) then 0 else 4)
  else 0
theorem valid_iff (n : Nat) : Utf8.valid (n : Int) = true ↔ (n < 55296 ∨ (57344 ≤ n ∧ n ≤ 1114111)) := by
  unfold Utf8.valid
  simp only [Bool.or_eq_true, Bool.and_eq_true, decide_eq_true_eq]
  omega
/-- A pair of a rune and its width, as 'next' takes it. -/
def tk (p : Nat × Nat) : Nat := if p.1 = 0 ∨ (p.1 = 65533 ∧ p.2 < 2) then 0 else p.2
theorem tk_bad : tk (Utf8.runeError, 1) = 0 := by decide
theorem tk_ok {c n : Nat} (h0 : c ≠ 0) (hn : 2 ≤ n) : tk (c, n) = n := by
  unfold tk
  rw [if_neg]
  rintro (h | ⟨_, h⟩)
  · exact h0 h
  · exact absurd h (by simp; omega)
theorem tk_one {c : Nat} (h0 : c ≠ 0) (h1 : c < 128) : tk (c, 1) = 1 := by
  unfold tk
  rw [if_neg]
  rintro (h | ⟨h, _⟩)
  · exact h0 h
  · simp at h; omega
theorem nx4_dec4 (b0 b1 b2 b3 : Nat) (c1 c2 c3 : Bool) (h0 : b0 < 256) (h1 : c1 = true → b1 / 64 = 2) : nx4 b0 b1 c1 c2 c3 = tk (dec4 b0 b1 b2 b3 c1 c2 c3) := by
  unfold nx4 dec4
  by_cases hA : b0 < 128
  · rw [if_pos hA]
    by_cases hz : b0 = 0
    · subst hz; rfl
    · rw [if_pos (by omega), tk_one hz hA]
  · rw [if_neg hA, if_neg (by omega)]
    by_cases hC : b0 < 224
    · rw [if_neg (show ¬ (224 ≤ b0 ∧ b0 ≤ 239 ∧ c1 = true ∧ c2 = true) by omega), if_neg (show ¬ (240 ≤ b0 ∧ b0 ≤ 244 ∧ c1 = true ∧ c2 = true ∧ c3 = true) by omega)]
      by_cases hB : b0 < 192
      · have e1 : (b0 / 32 == 6) = false := by rw [beq_eq_false_iff_ne]; omega
        have e2 : (b0 / 16 == 14) = false := by rw [beq_eq_false_iff_ne]; omega
        have e3 : (b0 / 8 == 30) = false := by rw [beq_eq_false_iff_ne]; omega
        rw [if_neg (by omega)]
        simp only [e1, e2, e3, Bool.false_and, Bool.false_eq_true, if_false]
        exact tk_bad.symm
      · have e1 : (b0 / 32 == 6) = true := by rw [beq_iff_eq]; omega
        have e2 : (b0 / 16 == 14) = false := by rw [beq_eq_false_iff_ne]; omega
        have e3 : (b0 / 8 == 30) = false := by rw [beq_eq_false_iff_ne]; omega
        simp only [e1, e2, e3, Bool.false_and, Bool.true_and, Bool.false_eq_true, if_false]
        cases c1
        · rw [if_neg (by simp), if_neg (by simp)]
          exact tk_bad.symm
        · rw [if_pos rfl]
          have h1' := h1 rfl
          by_cases hE : 194 ≤ b0
          · rw [if_pos ⟨hE, by omega, rfl⟩, if_pos (by omega), tk_ok (by omega) (by omega)]
          · rw [if_neg (by omega), if_neg (by omega), tk_bad]
    · rw [if_neg (show ¬ (194 ≤ b0 ∧ b0 ≤ 223 ∧ c1 = true) by omega)]
      have e1 : (b0 / 32 == 6) = false := by rw [beq_eq_false_iff_ne]; omega
      simp only [e1, Bool.false_and, Bool.false_eq_true, if_false]
      by_cases hD : b0 < 240
      · have e2 : (b0 / 16 == 14) = true := by rw [beq_iff_eq]; omega
        have e3 : (b0 / 8 == 30) = false := by rw [beq_eq_false_iff_ne]; omega
        simp only [e2, e3, Bool.false_and, Bool.true_and, Bool.false_eq_true, if_false]
        cases c1
        · simp only [Bool.false_and, Bool.false_eq_true, if_false, false_and, and_false]
          exact tk_bad.symm
        · cases c2
          · simp only [Bool.and_false, Bool.false_eq_true, if_false, false_and, and_false]
            exact tk_bad.symm
          · have h1' := h1 rfl
            simp only [Bool.and_self, if_true, and_self, and_true, Bool.and_eq_true, decide_eq_true_eq, valid_iff, ge_iff_le]
            rw [if_pos (by omega)]
            by_cases hF : (b0 = 224 ∧ b1 < 160) ∨ (b0 = 237 ∧ 159 < b1)
            · rw [if_pos hF, if_neg (by omega), tk_bad]
            · rw [if_neg hF, if_pos (by omega), tk_ok (by omega) (by omega)]
      · have e2 : (b0 / 16 == 14) = false := by rw [beq_eq_false_iff_ne]; omega
        rw [if_neg (show ¬ (224 ≤ b0 ∧ b0 ≤ 239 ∧ c1 = true ∧ c2 = true) by omega)]
        simp only [e2, Bool.false_and, Bool.false_eq_true, if_false]
        by_cases hG : b0 < 248
        · have e3 : (b0 / 8 == 30) = true := by rw [beq_iff_eq]; omega
          simp only [e3, Bool.true_and]
          cases c1
          · simp only [Bool.false_and, Bool.false_eq_true, if_false, false_and, and_false]
            exact tk_bad.symm
          · cases c2
            · simp only [Bool.and_false, Bool.false_and, Bool.false_eq_true, if_false, false_and, and_false]
              exact tk_bad.symm
            · cases c3
              · simp only [Bool.and_false, Bool.false_eq_true, if_false, and_false]
                exact tk_bad.symm
              · have h1' := h1 rfl
                simp only [Bool.and_self, if_true, and_self, and_true, Bool.and_eq_true, decide_eq_true_eq, valid_iff, ge_iff_le]
                by_cases hH : b0 ≤ 244
                · rw [if_pos (by omega)]
                  by_cases hF : (b0 = 240 ∧ b1 < 144) ∨ (b0 = 244 ∧ 143 < b1)
                  · rw [if_pos hF, if_neg (by omega), tk_bad]
                  · rw [if_neg hF, if_pos (by omega), tk_ok (by omega) (by omega)]
                · rw [if_neg (by omega), if_neg (by omega), tk_bad]
        · have e3 : (b0 / 8 == 30) = false := by rw [beq_eq_false_iff_ne]; omega
          rw [if_neg (by omega)]
          simp only [e3, Bool.false_and, Bool.false_eq_true, if_false]
          exact tk_bad.symm
theorem tl_get (s : ByteArray) (k : Nat) : tl s k 128 191 = (decide (k < s.size) && (s.get! k).toNat / 64 == 2) := by
  have h := get!_bt s k
  rw [Bool.eq_iff_iff, tl_iff]
  simp only [Bool.and_eq_true, decide_eq_true_eq, beq_iff_eq]
  omega
theorem nx_nx4 (s : ByteArray) (a : Nat) : nx s a = nx4 (s.get! a).toNat (s.get! (a + 1)).toNat (tl s (a + 1) 128 191) (tl s (a + 2) 128 191) (tl s (a + 3) 128 191) := by
  have h0 := get!_bt s a
  have h1 := get!_bt s (a + 1)
  unfold nx nx4
  rw [← h0]
  generalize (s.get! a).toNat = b0 at *
  have eq1 : (1 ≤ (b0 : Int) ∧ (b0 : Int) ≤ 127) = (1 ≤ b0 ∧ b0 ≤ 127) := by rw [eq_iff_iff]; omega
  simp only [eq1]
  by_cases hc1 : tl s (a + 1) 128 191 = true
  · have hs := (tl_iff.1 hc1).1
    have hr1 : 128 ≤ bt s (a + 1) := (tl_iff.1 hc1).2.1
    have hr2 : bt s (a + 1) ≤ 191 := (tl_iff.1 hc1).2.2
    rw [hc1]
    have t1 : (tl s (a + 1) 160 191 = false) = ((s.get! (a + 1)).toNat < 160) := by rw [eq_iff_iff, tl_not]; omega
    have t2 : (tl s (a + 1) 128 159 = false) = (159 < (s.get! (a + 1)).toNat) := by rw [eq_iff_iff, tl_not]; omega
    have t3 : (tl s (a + 1) 144 191 = false) = ((s.get! (a + 1)).toNat < 144) := by rw [eq_iff_iff, tl_not]; omega
    have t4 : (tl s (a + 1) 128 143 = false) = (143 < (s.get! (a + 1)).toNat) := by rw [eq_iff_iff, tl_not]; omega
    have k1 : (194 ≤ (b0 : Int)) = (194 ≤ b0) := by rw [eq_iff_iff]; omega
    have k0 : ((b0 : Int) ≤ 223) = (b0 ≤ 223) := by rw [eq_iff_iff]; omega
    have k2 : (224 ≤ (b0 : Int)) = (224 ≤ b0) := by rw [eq_iff_iff]; omega
    have k3 : ((b0 : Int) ≤ 239) = (b0 ≤ 239) := by rw [eq_iff_iff]; omega
    have k4 : (240 ≤ (b0 : Int)) = (240 ≤ b0) := by rw [eq_iff_iff]; omega
    have k5 : ((b0 : Int) ≤ 244) = (b0 ≤ 244) := by rw [eq_iff_iff]; omega
    have k6 : ((b0 : Int) = 224) = (b0 = 224) := by rw [eq_iff_iff]; omega
    have k7 : ((b0 : Int) = 237) = (b0 = 237) := by rw [eq_iff_iff]; omega
    have k8 : ((b0 : Int) = 240) = (b0 = 240) := by rw [eq_iff_iff]; omega
    have k9 : ((b0 : Int) = 244) = (b0 = 244) := by rw [eq_iff_iff]; omega
    simp only [t1, t2, t3, t4, k0, k1, k2, k3, k4, k5, k6, k7, k8, k9, true_and]
  · have hc1' : tl s (a + 1) 128 191 = false := by simpa using hc1
    rw [hc1']
    simp
/-- Go's decoder and the count: the rune r and its width n. -/
theorem nx_decode (s : ByteArray) (a : Nat) : nx s a = if (Utf8.decode s a).1 = 0 ∨ ((Utf8.decode s a).1 = 65533 ∧ (Utf8.decode s a).2 < 2) then 0 else (Utf8.decode s a).2 := by
  show nx s a = tk (Utf8.decode s a)
  rw [nx_nx4, decode_dec4, ← tl_get, ← tl_get, ← tl_get]
  refine nx4_dec4 _ _ _ _ _ _ _ ?_ ?_
  · exact (s.get! a).toNat_lt
  · intro h
    have := get!_bt s (a + 1)
    have := tl_iff.1 h
    omega

theorem nx_le (s : ByteArray) (a : Nat) (h : nx s a ≠ 0) : a + nx s a ≤ s.size := by
  have h0 : ¬ bt s a = 0 → a < s.size := fun h1 => by
    by_cases h2 : a < s.size
    · exact h2
    · exact absurd (bt_end s (by omega)) h1
  have t1 : tl s (a + 1) 128 191 = true → a + 1 < s.size := fun h => (tl_iff.1 h).1
  have t2 : tl s (a + 2) 128 191 = true → a + 2 < s.size := fun h => (tl_iff.1 h).1
  have t3 : tl s (a + 3) 128 191 = true → a + 3 < s.size := fun h => (tl_iff.1 h).1
  unfold nx at h ⊢
  split
  · have := h0 (by omega); omega
  · rename_i g1
    rw [if_neg g1] at h
    split
    · rename_i g2; have := t1 g2.2.2; omega
    · rename_i g2
      rw [if_neg g2] at h
      split
      · rename_i g3
        have := t2 g3.2.2.2
        split <;> omega
      · rename_i g3
        rw [if_neg g3] at h
        split
        · rename_i g4
          have := t3 g4.2.2.2.2
          split <;> omega
        · rename_i g4
          rw [if_neg g4] at h
          exact absurd rfl h
theorem nx_le4 (s : ByteArray) (a : Nat) : nx s a ≤ 4 := by
  unfold nx
  repeat' split
  all_goals omega

/-- The first byte at which a text is none (and whether there is one), from a place on. -/
def flt (s : ByteArray) : Nat → Nat → Int × Bool
  | 0, _ => (0, false)
  | f + 1, a => if s.size ≤ a then (0, false) else if nx s a = 0 then ((a : Int), true) else flt s f (a + nx s a)
theorem flt_end {s : ByteArray} {f a : Nat} (h : s.size ≤ a) : flt s f a = (0, false) := by
  cases f with
  | zero => rfl
  | succ f => unfold flt; rw [if_pos h]
theorem flt_bad {s : ByteArray} {f a : Nat} (h : a < s.size) (hf : s.size ≤ a + f) (hn : nx s a = 0) : flt s f a = ((a : Int), true) := by
  obtain ⟨g, rfl⟩ : ∃ g, f = g + 1 := ⟨f - 1, by omega⟩
  unfold flt
  rw [if_neg (by omega), if_pos hn]
theorem flt_step {s : ByteArray} {f a : Nat} (h : a < s.size) (hf : s.size ≤ a + f) (hn : nx s a ≠ 0) : flt s f a = flt s (f - 1) (a + nx s a) := by
  obtain ⟨g, rfl⟩ : ∃ g, f = g + 1 := ⟨f - 1, by omega⟩
  conv => lhs; unfold flt
  rw [if_neg (by omega), if_neg hn]
  rfl
/-- How many characters stand from a place on. -/
def rns (s : ByteArray) : Nat → Nat → Nat
  | 0, _ => 0
  | f + 1, a => if s.size ≤ a then 0 else if nx s a = 0 then 0 else 1 + rns s f (a + nx s a)
theorem rns_end {s : ByteArray} {f a : Nat} (h : s.size ≤ a) : rns s f a = 0 := by
  cases f with
  | zero => rfl
  | succ f => unfold rns; rw [if_pos h]
theorem rns_bad {s : ByteArray} {f a : Nat} (hn : nx s a = 0) : rns s f a = 0 := by
  cases f with
  | zero => rfl
  | succ f => unfold rns; rw [if_pos hn]; split <;> rfl
theorem rns_step {s : ByteArray} {f a : Nat} (h : a < s.size) (hf : s.size ≤ a + f) (hn : nx s a ≠ 0) : rns s f a = 1 + rns s (f - 1) (a + nx s a) := by
  obtain ⟨g, rfl⟩ : ∃ g, f = g + 1 := ⟨f - 1, by omega⟩
  conv => lhs; unfold rns
  rw [if_neg (by omega), if_neg hn]
  rfl
theorem rns_le (s : ByteArray) : ∀ (f a : Nat), rns s f a ≤ s.size - a := by
  intro f
  induction f with
  | zero => intro a; exact Nat.zero_le _
  | succ f ih =>
    intro a
    unfold rns
    split
    · omega
    · split
      · omega
      · have := ih (a + nx s a)
        have := nx_le s a (by assumption)
        omega
/-- Where the longest beginning of at most so many bytes ends. -/
def cutP (s : ByteArray) (most : Int) : Nat → Nat → Nat
  | 0, a => a
  | f + 1, a => if s.size ≤ a ∨ nx s a = 0 ∨ most < (a : Int) + nx s a then a else cutP s most f (a + nx s a)
theorem cutP_end {s : ByteArray} {most : Int} {f a : Nat} (h : s.size ≤ a ∨ nx s a = 0 ∨ most < (a : Int) + nx s a) : cutP s most f a = a := by
  cases f with
  | zero => rfl
  | succ f => unfold cutP; rw [if_pos h]
theorem cutP_step {s : ByteArray} {most : Int} {f a : Nat} (h : a < s.size) (hf : s.size ≤ a + f) (hn : nx s a ≠ 0) (hm : (a : Int) + nx s a ≤ most) : cutP s most f a = cutP s most (f - 1) (a + nx s a) := by
  obtain ⟨g, rfl⟩ : ∃ g, f = g + 1 := ⟨f - 1, by omega⟩
  conv => lhs; unfold cutP
  rw [if_neg (by rintro (h1 | h1 | h1); omega; exact hn h1; omega)]
  rfl
theorem cutP_le (s : ByteArray) (most : Int) : ∀ (f a : Nat), a ≤ s.size → cutP s most f a ≤ s.size := by
  intro f
  induction f with
  | zero => intro a h; exact h
  | succ f ih =>
    intro a h
    unfold cutP
    split
    · exact h
    · rename_i hc
      exact ih _ (nx_le s a (fun h0 => hc (.inr (.inl h0))))
/-- The longest beginning of a text of at most so many bytes. -/
def cutS (s : ByteArray) (most : Int) : ByteArray := s.extract 0 (cutP s most s.size 0)
theorem ext_ext (s : ByteArray) (a n : Nat) : (s.extract a s.size).extract n (s.size - a) = s.extract (a + n) s.size := by
  apply ByteArray.ext
  simp only [ByteArray.data_extract, Array.extract_extract]
  congr 1
  omega
theorem str_some {s : ByteArray} {a : Nat} (h : a < s.size) : (s.extract a s.size).toList.isEmpty = false := by
  rw [ByteArray.toList_eq, List.isEmpty_eq_false_iff]
  intro hc
  have := congrArg List.length hc
  simp at this
  omega
theorem str_none {s : ByteArray} {a : Nat} (h : s.size ≤ a) : (s.extract a s.size).toList.isEmpty = true := by
  rw [ByteArray.toList_eq, List.isEmpty_iff]
  apply List.eq_nil_of_length_eq_zero
  simp
  omega
end Go.Proofs.YtenoaonlngndpaaDoor.Pl

/- Plain facts about topics: levels, what may be a name or a filter, what matches; no program in sight. -/
namespace Go.Proofs.YtenoaonlngndpaaDoor.Pl
open Go

abbrev Bs := List UInt8
/-- A list of bytes as Go's string. -/
def strV (l : Bs) : Value := .string ⟨l.toArray⟩

def prep (x : Bs) : List Bs → List Bs
  | [] => [x]
  | h :: t => (x ++ h) :: t
/-- The pieces between slashes. -/
def lev : Bs → List Bs
  | [] => [[]]
  | c :: r => if c = 47 then [] :: lev r else prep [c] (lev r)

theorem prep_ne (x : Bs) (L : List Bs) : prep x L ≠ [] := by
  cases L <;> simp [prep]
theorem lev_ne (l : Bs) : lev l ≠ [] := by
  cases l with
  | nil => simp [lev]
  | cons c r =>
    unfold lev
    split
    · simp
    · exact prep_ne _ _
theorem prep_prep (x y : Bs) {L : List Bs} (h : L ≠ []) : prep x (prep y L) = prep (x ++ y) L := by
  cases L with
  | nil => exact absurd rfl h
  | cons a t => simp [prep]
theorem prep_nil {L : List Bs} (h : L ≠ []) : prep [] L = L := by
  cases L with
  | nil => exact absurd rfl h
  | cons a t => rfl
theorem prep_len (x : Bs) {L : List Bs} (h : L ≠ []) : (prep x L).length = L.length := by
  cases L with
  | nil => exact absurd rfl h
  | cons a t => rfl
theorem lev_len (l : Bs) : (lev l).length = l.count 47 + 1 := by
  induction l with
  | nil => rfl
  | cons c r ih =>
    unfold lev
    by_cases h : c = 47
    · rw [if_pos h, h, List.length_cons, ih, List.count_cons_self]
    · rw [if_neg h, prep_len _ (lev_ne r), ih, List.count_cons_of_ne h]
theorem lev_slash (r : Bs) : lev (47 :: r) = [] :: lev r := by rw [lev, if_pos rfl]
theorem lev_other {c : UInt8} (r : Bs) (h : c ≠ 47) : lev (c :: r) = prep [c] (lev r) := by rw [lev, if_neg h]

theorem lev_plain {l : Bs} (h : l.count 47 = 0) : lev l = [l] := by
  induction l with
  | nil => rfl
  | cons c r ih =>
    have hc : c ≠ 47 := by rintro rfl; simp at h
    rw [List.count_cons_of_ne hc] at h
    rw [lev_other _ hc, ih h]
    rfl

theorem index_slash (r : Bs) : Lib.index (47 :: r) [47] = 0 := by
  rw [Lib.index_one]; rfl
theorem index_other {c : UInt8} (r : Bs) (h : c ≠ 47) : Lib.index (c :: r) [47] = if Lib.index r [47] = -1 then -1 else Lib.index r [47] + 1 := by
  rw [Lib.index_one, Lib.index_one]
  have e : (c == 47) = false := beq_eq_false_iff_ne.2 h
  simp [Lib.indexByte, e]

theorem splitK_lev : ∀ l : Bs, Lib.splitK [47] 0 (Lib.count l [47]) l = lev l := by
  intro l
  induction l with
  | nil => rfl
  | cons c r ih =>
    by_cases h : c = 47
    · subst h
      have hm : ¬ (Lib.index (47 :: r) [47] == -1) = true := by rw [index_slash]; decide
      rw [lev_slash, Lib.count_cons_eq, Nat.add_comm, Lib.splitK, if_neg hm, index_slash]
      show (47 :: r).take 0 :: Lib.splitK [47] 0 (Lib.count r [47]) ((47 :: r).drop 1) = _
      rw [List.take_zero, List.drop_succ_cons, List.drop_zero, ih]
    · rw [lev_other _ h, Lib.count_cons_ne _ _ _ h, ← ih]
      have hcount : Lib.count r [47] = r.count 47 := Lib.count_one 47 r
      cases hk : Lib.count r [47] with
      | zero => rfl
      | succ k =>
        by_cases hi : Lib.index r [47] = -1
        · rw [Lib.count_miss hi] at hk; cases hk
        · have hge := Lib.index_ge r [47]
          obtain ⟨i, hi'⟩ : ∃ i : Nat, Lib.index r [47] = i := ⟨(Lib.index r [47]).toNat, by omega⟩
          have e1 : Lib.index (c :: r) [47] = ((i + 1 : Nat) : Int) := by rw [index_other _ h, if_neg hi, hi']; omega
          have m1 : ¬ (Lib.index r [47] == -1) = true := by rw [beq_iff_eq]; exact hi
          have m2 : ¬ (Lib.index (c :: r) [47] == -1) = true := by rw [beq_iff_eq, e1]; omega
          rw [Lib.splitK, if_neg m2, Lib.splitK, if_neg m1, e1, hi']
          simp [prep]

/-- Is the byte among them? -/
def has (c : UInt8) (l : Bs) : Bool := l.elem c
theorem contains_has (l : Bs) (c : UInt8) : Lib.contains l [c] = has c l := by
  unfold Lib.contains has
  rw [Lib.index_one]
  induction l with
  | nil => rfl
  | cons b r ih =>
    have hge : -1 ≤ Lib.indexByte r c := by rw [← Lib.index_one]; exact Lib.index_ge _ _
    unfold Lib.indexByte
    by_cases h : b = c
    · subst h; simp
    · have e : (b == c) = false := beq_eq_false_iff_ne.2 h
      have e2 : (c == b) = false := beq_eq_false_iff_ne.2 (fun x => h x.symm)
      rw [List.elem_cons, e2, e, ← ih]
      by_cases hm : Lib.indexByte r c = -1
      · simp [hm]
      · have m : (Lib.indexByte r c == -1) = false := beq_eq_false_iff_ne.2 hm
        simp only [m, Bool.false_eq_true, if_false]
        congr 1
        rw [eq_iff_iff]
        omega

/-- May it be a filter's level? -/
def lvOK (x : Bs) (last : Bool) : Bool := (!has 43 x || x == [43]) && (!has 35 x || (x == [35] && last))
def fok : List Bs → Bool
  | [] => true
  | x :: r => lvOK x r.isEmpty && fok r
/-- Is it a text of a length that may be? -/
def szd (s : ByteArray) : Bool := !(flt s s.size 0).2 && (decide (0 < s.size) && (decide (s.size ≤ 256) && decide ((lev s.data.toList).length ≤ 32)))
def nameB (s : ByteArray) : Bool := szd s && (!has 43 s.data.toList && !has 35 s.data.toList)
def filtB (s : ByteArray) : Bool := szd s && fok (lev s.data.toList)
def nameC (s : ByteArray) : Int := if nameB s then 0 else 144
def filtC (s : ByteArray) : Int := if filtB s then 0 else 143
/-- Level by level. -/
def mtL : List Bs → List Bs → Bool
  | [], [] => true
  | [], _ :: _ => false
  | x :: f, n => if x = [35] then true else
    match n with
    | [] => false
    | y :: n' => (x == [43] || x == y) && mtL f n'
def dol (F N : Bs) : Bool := N.head? == some 36 && (F.head? == some 43 || F.head? == some 35)
def mtB (F N : ByteArray) : Bool := filtB F && (nameB N && (!dol F.data.toList N.data.toList && mtL (lev F.data.toList) (lev N.data.toList)))
end Go.Proofs.YtenoaonlngndpaaDoor.Pl

/- Plain facts: a character hangs on its own bytes alone; cuts are texts; texts joined; no program in sight. -/
namespace Go.Proofs.YtenoaonlngndpaaDoor.Pl
open Go.PlainAid (bt bt_nonneg bt_le get_bt bt_end)

theorem tl_same {s s' : ByteArray} {a a' : Nat} (h : a < s.size) (h' : a' < s'.size) (hb : bt s' a' = bt s a) (lo hi : Int) : tl s' a' lo hi = tl s a lo hi := by
  unfold tl
  rw [hb]
  simp [h, h']
/-- A character hangs on its own bytes alone. -/
theorem nx_local {s s' : ByteArray} {a a' : Nat} (h : nx s a ≠ 0) (hb : ∀ k, k < nx s a → a' + k < s'.size ∧ bt s' (a' + k) = bt s (a + k)) : nx s' a' = nx s a := by
  have hle := nx_le s a h
  have h0 := (hb 0 (by omega))
  rw [Nat.add_zero, Nat.add_zero] at h0
  have hle' := hle
  unfold nx at h hle' hb
  by_cases c1 : 1 ≤ bt s a ∧ bt s a ≤ 127
  · unfold nx
    rw [h0.2, if_pos c1, if_pos c1]
  · rw [if_neg c1] at h hle' hb
    by_cases c2 : 194 ≤ bt s a ∧ bt s a ≤ 223 ∧ tl s (a + 1) 128 191 = true
    · rw [if_pos c2] at h hle' hb
      have h1 := hb 1 (by omega)
      have e1 := fun lo hi => tl_same (show a + 1 < s.size by omega) h1.1 h1.2 lo hi
      unfold nx
      rw [h0.2, if_neg c1, if_neg c1, e1, if_pos c2, if_pos c2]
    · rw [if_neg c2] at h hle' hb
      by_cases c3 : 224 ≤ bt s a ∧ bt s a ≤ 239 ∧ tl s (a + 1) 128 191 = true ∧ tl s (a + 2) 128 191 = true
      · rw [if_pos c3] at h hle' hb
        by_cases d3 : (bt s a = 224 ∧ tl s (a + 1) 160 191 = false) ∨ (bt s a = 237 ∧ tl s (a + 1) 128 159 = false)
        · rw [if_pos d3] at h; exact absurd rfl h
        · rw [if_neg d3] at hle' hb
          have h1 := hb 1 (by omega)
          have h2 := hb 2 (by omega)
          have e1 := fun lo hi => tl_same (show a + 1 < s.size by omega) h1.1 h1.2 lo hi
          have e2 := fun lo hi => tl_same (show a + 2 < s.size by omega) h2.1 h2.2 lo hi
          unfold nx
          rw [h0.2, e1, e1, e1, e2, if_neg c1, if_neg c1, if_neg c2, if_neg c2, if_pos c3, if_pos c3]
      · rw [if_neg c3] at h hle' hb
        by_cases c4 : 240 ≤ bt s a ∧ bt s a ≤ 244 ∧ tl s (a + 1) 128 191 = true ∧ tl s (a + 2) 128 191 = true ∧ tl s (a + 3) 128 191 = true
        · rw [if_pos c4] at h hle' hb
          by_cases d4 : (bt s a = 240 ∧ tl s (a + 1) 144 191 = false) ∨ (bt s a = 244 ∧ tl s (a + 1) 128 143 = false)
          · rw [if_pos d4] at h; exact absurd rfl h
          · rw [if_neg d4] at hle' hb
            have h1 := hb 1 (by omega)
            have h2 := hb 2 (by omega)
            have h3 := hb 3 (by omega)
            have e1 := fun lo hi => tl_same (show a + 1 < s.size by omega) h1.1 h1.2 lo hi
            have e2 := fun lo hi => tl_same (show a + 2 < s.size by omega) h2.1 h2.2 lo hi
            have e3 := fun lo hi => tl_same (show a + 3 < s.size by omega) h3.1 h3.2 lo hi
            unfold nx
            simp only [h0.2, e1, e2, e3]
        · rw [if_neg c4] at h; exact absurd rfl h

theorem bt_extract (s : ByteArray) {a p : Nat} (h : a < p) (hp : p ≤ s.size) : bt (s.extract 0 p) a = bt s a := by
  have hs : s.size = s.data.size := rfl
  rw [← get!_bt, ← get!_bt]
  congr 2
  show (s.extract 0 p).data[a]! = s.data[a]!
  rw [ByteArray.data_extract, getElem!_pos (s.data.extract 0 p) a (by rw [Array.size_extract]; omega), getElem!_pos s.data a (by omega), Array.getElem_extract]
  congr 1
  omega
theorem size_cut (s : ByteArray) {p : Nat} (hp : p ≤ s.size) : (s.extract 0 p).size = p := by rw [ByteArray.size_extract]; omega
/-- A character that lies whole in a beginning is a character there. -/
theorem nx_pre {s : ByteArray} {a p : Nat} (hp : p ≤ s.size) (h : nx s a ≠ 0) (ha : a + nx s a ≤ p) : nx (s.extract 0 p) a = nx s a :=
  nx_local h fun k hk => ⟨by rw [size_cut s hp]; omega, bt_extract s (by omega) hp⟩
/-- A character of a beginning is one of the whole. -/
theorem nx_of_pre {s : ByteArray} {a p : Nat} (hp : p ≤ s.size) (h : nx (s.extract 0 p) a ≠ 0) : nx s a = nx (s.extract 0 p) a := by
  have hle := nx_le _ _ h
  rw [size_cut s hp] at hle
  exact nx_local h fun k hk => ⟨by omega, (bt_extract s (by omega) hp).symm⟩

theorem cutP_ge (s : ByteArray) (most : Int) : ∀ (f a : Nat), a ≤ cutP s most f a := by
  intro f
  induction f with
  | zero => intro a; exact Nat.le_refl _
  | succ f ih =>
    intro a
    unfold cutP
    split
    · exact Nat.le_refl _
    · have := ih (a + nx s a); omega
theorem cutP_most (s : ByteArray) (most : Int) : ∀ (f a : Nat), (cutP s most f a : Int) ≤ max (a : Int) most := by
  intro f
  induction f with
  | zero => intro a; exact Int.le_max_left _ _
  | succ f ih =>
    intro a
    unfold cutP
    split
    · exact Int.le_max_left _ _
    · rename_i hc
      have := ih (a + nx s a)
      omega
/-- Where the cut ends, the longest beginning does: nothing stands behind, or no character, or one too many. -/
theorem cutP_stop (s : ByteArray) (most : Int) : ∀ (f a : Nat), s.size ≤ a + f → s.size ≤ cutP s most f a ∨ nx s (cutP s most f a) = 0 ∨ most < (cutP s most f a : Int) + nx s (cutP s most f a) := by
  intro f
  induction f with
  | zero => intro a h; exact .inl (by unfold cutP; omega)
  | succ f ih =>
    intro a h
    unfold cutP
    split
    · assumption
    · rename_i hc
      exact ih _ (by have : nx s a ≠ 0 := fun h0 => hc (.inr (.inl h0)); omega)
/-- A beginning up to a place that the cut goes through has no fault ahead of it; and if it has none at all, none from the cut on. -/
theorem flt_cut (s : ByteArray) (most : Int) : ∀ (f a q g : Nat), cutP s most f a ≤ q → q ≤ s.size → a ≤ s.size → q ≤ a + g →
    ∃ g', q ≤ cutP s most f a + g' ∧ flt (s.extract 0 q) g a = flt (s.extract 0 q) g' (cutP s most f a) := by
  intro f
  induction f with
  | zero => intro a q g h1 h2 h3 h4; exact ⟨g, h4, rfl⟩
  | succ f ih =>
    intro a q g h1 h2 h3 h4
    by_cases hc : s.size ≤ a ∨ nx s a = 0 ∨ most < (a : Int) + nx s a
    · rw [cutP_end hc] at h1 ⊢
      exact ⟨g, h4, rfl⟩
    · have hn : nx s a ≠ 0 := fun h0 => hc (.inr (.inl h0))
      have he : cutP s most (f + 1) a = cutP s most f (a + nx s a) := by
        conv => lhs; unfold cutP
        rw [if_neg hc]
      rw [he] at h1 ⊢
      have hge := cutP_ge s most f (a + nx s a)
      have hx := nx_pre h2 hn (by omega)
      have hsz := size_cut s h2
      obtain ⟨g', hg, hf⟩ := ih (a + nx s a) q (g - 1) h1 h2 (nx_le s a hn) (by omega)
      refine ⟨g', hg, ?_⟩
      rw [flt_step (by omega) (by omega) (by rw [hx]; exact hn), hx, hf]
/-- What the cut leaves is a text. -/
theorem cut_text (s : ByteArray) (most : Int) : (flt (cutS s most) (cutS s most).size 0) = (0, false) := by
  have hle := cutP_le s most s.size 0 (Nat.zero_le _)
  obtain ⟨g', _, hf⟩ := flt_cut s most s.size 0 (cutP s most s.size 0) (cutS s most).size (Nat.le_refl _) hle (Nat.zero_le _) (by unfold cutS; rw [size_cut s hle]; omega)
  unfold cutS at hf ⊢
  rw [hf]
  exact flt_end (by rw [size_cut s hle]; exact Nat.le_refl _)
/-- With n bytes more it is none, or too long. -/
theorem cut_longest (s : ByteArray) (most : Int) (n : Nat) (hn : 1 ≤ n) (hs : cutP s most s.size 0 + n ≤ s.size)
    (hf : (flt (s.extract 0 (cutP s most s.size 0 + n)) (cutP s most s.size 0 + n) 0).2 = false) : most < (cutP s most s.size 0 : Int) + n := by
  obtain ⟨g', hg, he⟩ := flt_cut s most s.size 0 (cutP s most s.size 0 + n) (cutP s most s.size 0 + n) (by omega) hs (Nat.zero_le _) (by omega)
  rw [he] at hf
  have hsz := size_cut s hs
  have hnx : nx (s.extract 0 (cutP s most s.size 0 + n)) (cutP s most s.size 0) ≠ 0 := by
    intro h0
    rw [flt_bad (by omega) (by omega) h0] at hf
    exact absurd hf (by simp)
  have hle := nx_le _ _ hnx
  rw [hsz] at hle
  have hx := nx_of_pre hs hnx
  rcases cutP_stop s most s.size 0 (by omega) with h | h | h
  · omega
  · rw [hx] at h; exact absurd h hnx
  · rw [hx] at h; omega
end Go.Proofs.YtenoaonlngndpaaDoor.Pl

/- Plain facts: two texts are one; what a slash parts are texts. No program in sight. -/
namespace Go.Proofs.YtenoaonlngndpaaDoor.Pl
open Go.PlainAid (bt bt_nonneg bt_le get_bt bt_end)

theorem size_app (a b : ByteArray) : (a ++ b).size = a.size + b.size := ByteArray.size_append
theorem bt_left (a b : ByteArray) {k : Nat} (h : k < a.size) : bt (a ++ b) k = bt a k := by
  have hs : a.size = a.data.size := rfl
  rw [← get!_bt, ← get!_bt]
  congr 2
  show (a ++ b).data[k]! = a.data[k]!
  rw [ByteArray.data_append, getElem!_pos (a.data ++ b.data) k (by rw [Array.size_append]; omega), getElem!_pos a.data k (by omega), Array.getElem_append_left (by omega)]
theorem bt_right (a b : ByteArray) {k : Nat} (h : k < b.size) : bt (a ++ b) (a.size + k) = bt b k := by
  have hs : a.size = a.data.size := rfl
  have ht : b.size = b.data.size := rfl
  rw [← get!_bt, ← get!_bt]
  congr 2
  show (a ++ b).data[a.size + k]! = b.data[k]!
  rw [ByteArray.data_append, getElem!_pos (a.data ++ b.data) (a.size + k) (by rw [Array.size_append]; omega), getElem!_pos b.data k (by omega), Array.getElem_append_right (by omega)]
  congr 1
  omega
theorem walk_left (a b : ByteArray) : ∀ (f k g : Nat), a.size ≤ k + f → k ≤ a.size → (a ++ b).size ≤ k + g → (flt a f k).2 = false →
    ∃ g', (a ++ b).size ≤ a.size + g' ∧ flt (a ++ b) g k = flt (a ++ b) g' a.size ∧ rns (a ++ b) g k = rns a f k + rns (a ++ b) g' a.size := by
  have hsz := size_app a b
  intro f
  induction f with
  | zero =>
    intro k g h1 h2 h3 h4
    obtain rfl : k = a.size := by omega
    exact ⟨g, h3, rfl, by rw [rns_end (s := a) (by omega), Nat.zero_add]⟩
  | succ f ih =>
    intro k g h1 h2 h3 h4
    by_cases hk : k < a.size
    · by_cases hn : nx a k = 0
      · rw [flt_bad hk h1 hn] at h4; exact absurd h4 (by simp)
      · have hle := nx_le a k hn
        have hx : nx (a ++ b) k = nx a k := nx_local hn fun j hj => ⟨by omega, bt_left a b (by omega)⟩
        rw [flt_step hk h1 hn] at h4
        obtain ⟨g', e1, e2, e3⟩ := ih (k + nx a k) (g - 1) (by omega) hle (by omega) h4
        refine ⟨g', e1, ?_, ?_⟩
        · rw [flt_step (by omega) (by omega) (by rw [hx]; exact hn), hx, e2]
        · rw [rns_step (by omega) (by omega) (by rw [hx]; exact hn), hx, e3, rns_step hk h1 hn]
          have : f + 1 - 1 = f := rfl
          rw [this]
          omega
    · obtain rfl : k = a.size := by omega
      exact ⟨g, h3, rfl, by rw [rns_end (s := a) (by omega), Nat.zero_add]⟩
theorem walk_right (a b : ByteArray) : ∀ (f k g : Nat), b.size ≤ k + f → k ≤ b.size → (a ++ b).size ≤ a.size + k + g → (flt b f k).2 = false →
    flt (a ++ b) g (a.size + k) = (0, false) ∧ rns (a ++ b) g (a.size + k) = rns b f k := by
  have hsz := size_app a b
  intro f
  induction f with
  | zero =>
    intro k g h1 h2 h3 h4
    exact ⟨flt_end (by omega), by rw [rns_end (by omega), rns_end (by omega)]⟩
  | succ f ih =>
    intro k g h1 h2 h3 h4
    by_cases hk : k < b.size
    · by_cases hn : nx b k = 0
      · rw [flt_bad hk h1 hn] at h4; exact absurd h4 (by simp)
      · have hle := nx_le b k hn
        have hx : nx (a ++ b) (a.size + k) = nx b k := nx_local hn fun j hj => ⟨by omega, by rw [Nat.add_assoc]; exact bt_right a b (by omega)⟩
        rw [flt_step hk h1 hn] at h4
        obtain ⟨e2, e3⟩ := ih (k + nx b k) (g - 1) (by omega) hle (by omega) h4
        rw [← Nat.add_assoc] at e2 e3
        refine ⟨?_, ?_⟩
        · rw [flt_step (by omega) (by omega) (by rw [hx]; exact hn), hx, e2]
        · rw [rns_step (by omega) (by omega) (by rw [hx]; exact hn), hx, e3, rns_step hk h1 hn]
          rfl
    · exact ⟨flt_end (by omega), by rw [rns_end (by omega), rns_end (by omega)]⟩
/-- Two texts are one. -/
theorem join_text {a b : ByteArray} (ha : (flt a a.size 0).2 = false) (hb : (flt b b.size 0).2 = false) :
    flt (a ++ b) (a ++ b).size 0 = (0, false) ∧ rns (a ++ b) (a ++ b).size 0 = rns a a.size 0 + rns b b.size 0 := by
  obtain ⟨g', e1, e2, e3⟩ := walk_left a b a.size 0 (a ++ b).size (by omega) (by omega) (by omega) ha
  obtain ⟨e4, e5⟩ := walk_right a b b.size 0 g' (by omega) (by omega) (by omega) hb
  rw [Nat.add_zero] at e4 e5
  exact ⟨e2.trans e4, by rw [e3, e5]⟩


theorem nx_tail {s : ByteArray} {a k : Nat} (h : nx s a ≠ 0) (h1 : 1 ≤ k) (h2 : k < nx s a) : 128 ≤ bt s (a + k) := by
  unfold nx at h h2
  by_cases c1 : 1 ≤ bt s a ∧ bt s a ≤ 127
  · rw [if_pos c1] at h2; omega
  · rw [if_neg c1] at h h2
    by_cases c2 : 194 ≤ bt s a ∧ bt s a ≤ 223 ∧ tl s (a + 1) 128 191 = true
    · rw [if_pos c2] at h2
      obtain rfl : k = 1 := by omega
      exact (tl_iff.1 c2.2.2).2.1
    · rw [if_neg c2] at h h2
      by_cases c3 : 224 ≤ bt s a ∧ bt s a ≤ 239 ∧ tl s (a + 1) 128 191 = true ∧ tl s (a + 2) 128 191 = true
      · rw [if_pos c3] at h h2
        have : k < 3 := by split at h2 <;> omega
        obtain rfl | rfl : k = 1 ∨ k = 2 := by omega
        · exact (tl_iff.1 c3.2.2.1).2.1
        · exact (tl_iff.1 c3.2.2.2).2.1
      · rw [if_neg c3] at h h2
        by_cases c4 : 240 ≤ bt s a ∧ bt s a ≤ 244 ∧ tl s (a + 1) 128 191 = true ∧ tl s (a + 2) 128 191 = true ∧ tl s (a + 3) 128 191 = true
        · rw [if_pos c4] at h h2
          have : k < 4 := by split at h2 <;> omega
          obtain rfl | rfl | rfl : k = 1 ∨ k = 2 ∨ k = 3 := by omega
          · exact (tl_iff.1 c4.2.2.1).2.1
          · exact (tl_iff.1 c4.2.2.2.1).2.1
          · exact (tl_iff.1 c4.2.2.2.2).2.1
        · rw [if_neg c4] at h; exact absurd rfl h

/-- Ahead of a byte below 128 the walk goes as in that part alone, and comes to that byte. -/
theorem walk_part (a b : ByteArray) (hb : bt (a ++ b) a.size < 128) (hs : a.size < (a ++ b).size) : ∀ (f k g : Nat), (a ++ b).size ≤ k + f → k ≤ a.size → a.size ≤ k + g → (flt (a ++ b) f k).2 = false →
    (flt a g k).2 = false ∧ ∃ f', (a ++ b).size ≤ a.size + f' ∧ (flt (a ++ b) f' a.size).2 = false := by
  have hsz := size_app a b
  intro f
  induction f with
  | zero => intro k g h1 h2 h3 h4; omega
  | succ f ih =>
    intro k g h1 h2 h3 h4
    by_cases hk : k < a.size
    · by_cases hn : nx (a ++ b) k = 0
      · rw [flt_bad (by omega) h1 hn] at h4; exact absurd h4 (by simp)
      · have hle : k + nx (a ++ b) k ≤ a.size := by
          apply Decidable.byContradiction
          intro hc
          have := nx_tail (s := a ++ b) (a := k) (k := a.size - k) hn (by omega) (by omega)
          rw [show k + (a.size - k) = a.size by omega] at this
          omega
        have hx : nx a k = nx (a ++ b) k := nx_local hn fun j hj => ⟨by omega, (bt_left a b (by omega)).symm⟩
        rw [flt_step (by omega) h1 hn] at h4
        obtain ⟨e1, e2⟩ := ih (k + nx (a ++ b) k) (g - 1) (by omega) hle (by omega) h4
        refine ⟨?_, e2⟩
        rw [flt_step hk (by omega) (by rw [hx]; exact hn), hx]
        exact e1
    · obtain rfl : k = a.size := by omega
      exact ⟨by rw [flt_end (by omega)], f + 1, h1, h4⟩
theorem walk_behind (a b : ByteArray) : ∀ (f k g : Nat), (a ++ b).size ≤ a.size + k + f → k ≤ b.size → b.size ≤ k + g → (flt (a ++ b) f (a.size + k)).2 = false → (flt b g k).2 = false := by
  have hsz := size_app a b
  intro f
  induction f with
  | zero => intro k g h1 h2 h3 h4; rw [flt_end (by omega)]
  | succ f ih =>
    intro k g h1 h2 h3 h4
    by_cases hk : k < b.size
    · by_cases hn : nx (a ++ b) (a.size + k) = 0
      · rw [flt_bad (by omega) h1 hn] at h4; exact absurd h4 (by simp)
      · have hle := nx_le (a ++ b) (a.size + k) hn
        have hx : nx b k = nx (a ++ b) (a.size + k) := nx_local hn fun j hj => ⟨by omega, by rw [Nat.add_assoc]; exact (bt_right a b (by omega)).symm⟩
        rw [flt_step (by omega) h1 hn, Nat.add_assoc] at h4
        rw [flt_step hk (by omega) (by rw [hx]; exact hn), hx]
        exact ih _ (g - 1) (by omega) (by omega) (by omega) h4
    · rw [flt_end (by omega)]

/-- Is it a text? -/
def txt (l : List UInt8) : Bool := !(flt ⟨l.toArray⟩ l.length 0).2
theorem txt_iff (s : ByteArray) : txt s.data.toList = !(flt s s.size 0).2 := by
  unfold txt
  have : s.data.toList.length = s.size := rfl
  rw [this]
theorem mk_app (a b : List UInt8) : (⟨(a ++ b).toArray⟩ : ByteArray) = ⟨a.toArray⟩ ++ ⟨b.toArray⟩ := by
  apply ByteArray.ext
  simp
theorem txt_app {a b : List UInt8} (ha : txt a = true) (hb : txt b = true) : txt (a ++ b) = true := by
  have h := (join_text (a := ⟨a.toArray⟩) (b := ⟨b.toArray⟩) (by simpa [txt, ByteArray.size] using ha) (by simpa [txt, ByteArray.size] using hb)).1
  rw [← mk_app] at h
  unfold txt
  have e : (⟨(a ++ b).toArray⟩ : ByteArray).size = (a ++ b).length := by simp [ByteArray.size]
  rw [e] at h
  rw [h]; rfl
theorem txt_nil : txt [] = true := rfl
/-- What stands ahead of and behind a byte below 128 of a text are texts. -/
theorem txt_part {a b : List UInt8} {c : UInt8} (hc : c.toNat < 128) (h : txt (a ++ c :: b) = true) : txt a = true ∧ txt b = true := by
  have hA : (⟨a.toArray⟩ : ByteArray).size = a.length := by simp [ByteArray.size]
  have hB : (⟨(c :: b).toArray⟩ : ByteArray).size = b.length + 1 := by simp [ByteArray.size]
  have hb0 : bt ⟨(c :: b).toArray⟩ 0 = c.toNat := by
    rw [← get!_bt]
    rfl
  have hsz := size_app ⟨a.toArray⟩ ⟨(c :: b).toArray⟩
  have hbt : bt ((⟨a.toArray⟩ : ByteArray) ++ ⟨(c :: b).toArray⟩) (⟨a.toArray⟩ : ByteArray).size = c.toNat := by
    rw [← hb0]
    exact bt_right ⟨a.toArray⟩ ⟨(c :: b).toArray⟩ (k := 0) (by omega)
  have h0 : (flt ((⟨a.toArray⟩ : ByteArray) ++ ⟨(c :: b).toArray⟩) (a ++ c :: b).length 0).2 = false := by
    rw [← mk_app]; simpa [txt] using h
  have hlen : (a ++ c :: b).length = a.length + (b.length + 1) := by simp
  obtain ⟨e1, f', e2, e3⟩ := walk_part ⟨a.toArray⟩ ⟨(c :: b).toArray⟩ (by rw [hbt]; omega) (by omega) (a ++ c :: b).length 0 a.length (by omega) (by omega) (by omega) h0
  refine ⟨by simpa [txt] using e1, ?_⟩
  have e4 := walk_behind ⟨a.toArray⟩ ⟨(c :: b).toArray⟩ f' 0 (b.length + 1) (by omega) (by omega) (by omega) e3
  by_cases hz : c.toNat = 0
  · have hn : nx ⟨(c :: b).toArray⟩ 0 = 0 := by
      unfold nx
      rw [hb0, if_neg (by omega), if_neg (by omega), if_neg (by omega), if_neg (by omega)]
    rw [flt_bad (by omega) (by omega) hn] at e4
    exact absurd e4 (by simp)
  · have hn : nx ⟨(c :: b).toArray⟩ 0 = 1 := by
      unfold nx
      rw [hb0, if_pos (by omega)]
    rw [flt_step (by omega) (by omega) (by omega), hn] at e4
    have ec : (⟨(c :: b).toArray⟩ : ByteArray) = ⟨[c].toArray⟩ ++ ⟨b.toArray⟩ := mk_app [c] b
    rw [ec] at e4
    have e5 := walk_behind ⟨[c].toArray⟩ ⟨b.toArray⟩ (b.length + 1 - 1) 0 b.length (by rw [size_app]; simp [ByteArray.size]) (by omega) (by simp [ByteArray.size]) (by simpa [ByteArray.size] using e4)
    simpa [txt] using e5
end Go.Proofs.YtenoaonlngndpaaDoor.Pl

/- Plain laws of topics: what matches what; levels put together; no program in sight. -/
namespace Go.Proofs.YtenoaonlngndpaaDoor.Pl
open Go

/-! ### Joining -/
def jn : List Bs → Bs
  | [] => []
  | [x] => x
  | x :: r => x ++ 47 :: jn r
theorem jn_cons (x : Bs) {r : List Bs} (h : r ≠ []) : jn (x :: r) = x ++ 47 :: jn r := by
  cases r with
  | nil => exact absurd rfl h
  | cons y t => rfl
theorem join_jn (L : List Bs) : Lib.join L [47] = jn L := by
  induction L with
  | nil => rfl
  | cons x r ih =>
    cases r with
    | nil => exact Lib.join_one _ _
    | cons y t =>
      rw [jn_cons x (by simp), ← ih, Lib.join_cons, Lib.join_cons]
      simp [Lib.joinTail]
theorem jn_snoc {L : List Bs} (h : L ≠ []) (x : Bs) : jn (L ++ [x]) = jn L ++ 47 :: x := by
  induction L with
  | nil => exact absurd rfl h
  | cons y r ih =>
    cases r with
    | nil => rfl
    | cons z t =>
      rw [List.cons_append, jn_cons y (by simp), ih (by simp), jn_cons y (by simp)]
      simp
theorem jn_prep (c : UInt8) {L : List Bs} (h : L ≠ []) : jn (prep [c] L) = c :: jn L := by
  cases L with
  | nil => exact absurd rfl h
  | cons a t =>
    cases t with
    | nil => rfl
    | cons b u => rfl
theorem jn_lev (l : Bs) : jn (lev l) = l := by
  induction l with
  | nil => rfl
  | cons c r ih =>
    by_cases h : c = 47
    · subst h
      rw [lev_slash, jn_cons _ (lev_ne r), ih]; rfl
    · rw [lev_other _ h, jn_prep _ (lev_ne r), ih]
theorem lev_app (a b : Bs) : lev (a ++ 47 :: b) = lev a ++ lev b := by
  induction a with
  | nil => rw [List.nil_append, lev_slash]; rfl
  | cons c r ih =>
    by_cases h : c = 47
    · subst h
      rw [List.cons_append, lev_slash, lev_slash, ih]; rfl
    · rw [List.cons_append, lev_other _ h, lev_other _ h, ih]
      cases hL : lev r with
      | nil => exact absurd hL (lev_ne r)
      | cons x t => rfl
/-- No slash in any piece. -/
def clean (L : List Bs) : Prop := ∀ x ∈ L, x.count 47 = 0
theorem lev_jn {L : List Bs} (h : L ≠ []) (hc : clean L) : lev (jn L) = L := by
  induction L with
  | nil => exact absurd rfl h
  | cons x r ih =>
    have hx := lev_plain (hc x (by simp))
    cases r with
    | nil => exact hx
    | cons y t =>
      rw [jn_cons x (by simp), lev_app, hx, ih (by simp) (fun z hz => hc z (by simp [hz]))]
      rfl
theorem prep_mem {x : Bs} {L : List Bs} {y : Bs} (h : y ∈ prep x L) : (∃ z ∈ L, y = x ++ z) ∨ y ∈ L ∨ (L = [] ∧ y = x) := by
  cases L with
  | nil => right; right; simpa [prep] using h
  | cons a t =>
    simp only [prep, List.mem_cons] at h
    rcases h with h | h
    · exact .inl ⟨a, by simp, h⟩
    · exact .inr (.inl (by simp [h]))
theorem lev_clean (l : Bs) : clean (lev l) := by
  induction l with
  | nil => intro x hx; simp [lev] at hx; subst hx; rfl
  | cons c r ih =>
    by_cases h : c = 47
    · subst h
      rw [lev_slash]
      intro x hx
      rcases List.mem_cons.1 hx with rfl | hx
      · rfl
      · exact ih x hx
    · rw [lev_other _ h]
      intro x hx
      rcases prep_mem hx with ⟨z, hz, rfl⟩ | hx | ⟨h0, _⟩
      · rw [List.count_append, ih z hz]
        simp [h]
      · exact ih x hx
      · exact absurd h0 (lev_ne r)
theorem lev_inj {a b : Bs} (h : lev a = lev b) : a = b := by rw [← jn_lev a, ← jn_lev b, h]
/-- What holds of every byte of a text holds of every byte of its levels. -/
theorem lev_has {c : UInt8} {l : Bs} (h : has c l = false) : ∀ x ∈ lev l, has c x = false := by
  induction l with
  | nil => intro x hx; simp [lev] at hx; subst hx; rfl
  | cons b r ih =>
    have h1 : (c == b) = false ∧ has c r = false := by
      unfold has at h ⊢
      rw [List.elem_cons] at h
      cases hb : c == b
      · rw [hb] at h; exact ⟨rfl, h⟩
      · rw [hb] at h; cases h
    by_cases hs : b = 47
    · subst hs
      rw [lev_slash]
      intro x hx
      rcases List.mem_cons.1 hx with rfl | hx
      · rfl
      · exact ih h1.2 x hx
    · rw [lev_other _ hs]
      intro x hx
      rcases prep_mem hx with ⟨z, hz, rfl⟩ | hx | ⟨h0, _⟩
      · have := ih h1.2 z hz
        unfold has at this ⊢
        show List.elem c (b :: z) = false
        rw [List.elem_cons, h1.1]; exact this
      · exact ih h1.2 x hx
      · exact absurd h0 (lev_ne r)
theorem txt_lev : ∀ l : Bs, txt l = true → ∀ x ∈ lev l, txt x = true := by
  intro l
  suffices H : ∀ L : List Bs, L ≠ [] → txt (jn L) = true → ∀ x ∈ L, txt x = true by
    intro h; exact H _ (lev_ne l) (by rw [jn_lev]; exact h)
  intro L
  induction L with
  | nil => intro h; exact absurd rfl h
  | cons y r ih =>
    intro _ h x hx
    cases r with
    | nil => rcases List.mem_cons.1 hx with rfl | hx; exact h; simp at hx
    | cons z t =>
      rw [jn_cons y (by simp)] at h
      have hp := txt_part (by decide) h
      rcases List.mem_cons.1 hx with rfl | hx
      · exact hp.1
      · exact ih (by simp) hp.2 x hx
theorem txt_jn {L : List Bs} (h : ∀ x ∈ L, txt x = true) : txt (jn L) = true := by
  induction L with
  | nil => exact txt_nil
  | cons x r ih =>
    cases r with
    | nil => exact h x (by simp)
    | cons y t =>
      rw [jn_cons x (by simp)]
      exact txt_app (h x (by simp)) (txt_app (a := [47]) (by decide) (ih fun z hz => h z (by simp [hz])))

/-! ### Matching -/
/-- The program's own way: the last level first, then all that are left, one by one. -/
def eqB : List Bs → List Bs → Bool
  | a :: r, b :: t => (a == [43] || a == b) && eqB r t
  | _, _ => true
def allB (f : List Bs) : Bool := f.getLast? == some [35]
def cutL (f : List Bs) : List Bs := if allB f then f.dropLast else f
def pmt (f n : List Bs) : Bool := !(decide (n.length < (cutL f).length)) && ((allB f || !decide ((cutL f).length < n.length)) && eqB (cutL f) (n.take (cutL f).length))

theorem has_self (c : UInt8) : has c [c] = true := by simp [has]
theorem fok_cons {x : Bs} {r : List Bs} (h : fok (x :: r) = true) : lvOK x r.isEmpty = true ∧ fok r = true := by
  simpa [fok] using h
theorem lv_rest {r : Bool} (h : lvOK [35] r = true) : r = true := by
  cases r
  · revert h; decide
  · rfl
theorem allB_cons (x : Bs) {r : List Bs} (h : r ≠ []) : allB (x :: r) = allB r := by
  unfold allB
  cases r with
  | nil => exact absurd rfl h
  | cons y t => rw [List.getLast?_cons_cons]
theorem cutL_cons (x : Bs) {r : List Bs} (h : r ≠ []) : cutL (x :: r) = x :: cutL r := by
  unfold cutL
  rw [allB_cons x h]
  cases r with
  | nil => exact absurd rfl h
  | cons y t => split <;> rfl
theorem pmt_mtL : ∀ f : List Bs, f ≠ [] → fok f = true → ∀ n : List Bs, pmt f n = mtL f n := by
  intro f
  induction f with
  | nil => intro h; exact absurd rfl h
  | cons x r ih =>
    intro _ hf n
    obtain ⟨h1, h2⟩ := fok_cons hf
    by_cases hr : r = []
    · subst hr
      by_cases hx : x = [35]
      · subst hx
        unfold pmt mtL
        simp [allB, cutL, eqB]
      · have ha : allB [x] = false := by
          unfold allB
          simpa using hx
        have hc : cutL [x] = [x] := by unfold cutL; rw [ha]; rfl
        unfold pmt mtL
        rw [hc, ha, if_neg hx]
        cases n with
        | nil => simp
        | cons y n' =>
          cases n' with
          | nil => simp [eqB, mtL]
          | cons z n'' => simp [mtL]
    · have hx : x ≠ [35] := by
        rintro rfl
        have := lv_rest h1
        exact hr (List.isEmpty_iff.1 this)
      have e := ih hr h2
      unfold pmt mtL
      rw [cutL_cons x hr, allB_cons x hr, if_neg hx]
      cases n with
      | nil => simp
      | cons y n' =>
        have e' := e n'
        unfold pmt at e'
        simp only [← e', List.length_cons, List.take_succ_cons, eqB, Nat.add_lt_add_iff_right]
        cases (x == [43] || x == y) <;> simp
theorem mtL_app {f n m : List Bs} (h : mtL f n = true) (ha : allB f = true) : mtL f (n ++ m) = true := by
  induction f generalizing n with
  | nil => simp [allB] at ha
  | cons x r ih =>
    unfold mtL at h ⊢
    by_cases hx : x = [35]
    · rw [if_pos hx]
    · rw [if_neg hx] at h ⊢
      have hr : r ≠ [] := by
        rintro rfl
        unfold allB at ha
        exact hx (by simpa using ha)
      rw [allB_cons x hr] at ha
      cases n with
      | nil => cases h
      | cons y n' =>
        simp only [List.cons_append, Bool.and_eq_true] at h ⊢
        exact ⟨h.1, ih h.2 ha⟩
theorem mtL_open {f n m : List Bs} (h : mtL f n = true) : mtL (f ++ [[35]]) (n ++ m) = true := by
  induction f generalizing n with
  | nil => unfold mtL; simp
  | cons x r ih =>
    rw [List.cons_append]
    unfold mtL at h ⊢
    by_cases hx : x = [35]
    · rw [if_pos hx]
    · rw [if_neg hx] at h ⊢
      cases n with
      | nil => cases h
      | cons y n' =>
        simp only [List.cons_append, Bool.and_eq_true] at h ⊢
        exact ⟨h.1, ih h.2⟩
theorem mtL_longer {f n m : List Bs} (h : mtL f n = true) (hf : fok f = true) (ha : allB f = false) (hm : m ≠ []) : mtL f (n ++ m) = false := by
  induction f generalizing n with
  | nil =>
    cases n with
    | nil =>
      cases m with
      | nil => exact absurd rfl hm
      | cons y t => rfl
    | cons y t => unfold mtL at h; cases h
  | cons x r ih =>
    obtain ⟨h1, h2⟩ := fok_cons hf
    have hx : x ≠ [35] := by
      rintro rfl
      have hr := List.isEmpty_iff.1 (lv_rest h1)
      subst hr
      revert ha; decide
    unfold mtL at h ⊢
    rw [if_neg hx] at h ⊢
    cases n with
    | nil => cases h
    | cons y n' =>
      simp only [List.cons_append, Bool.and_eq_true] at h ⊢
      have ha' : allB r = false := by
        by_cases hr : r = []
        · subst hr; rfl
        · rw [allB_cons x hr] at ha; exact ha
      rw [ih h.2 h2 ha', Bool.and_false]

/-! ### Names -/
/-- No level of it has a plus or a hash. -/
def pure (L : List Bs) : Prop := ∀ x ∈ L, has 43 x = false ∧ has 35 x = false
theorem name_pure {N : ByteArray} (h : nameB N = true) : pure (lev N.data.toList) := by
  unfold nameB at h
  simp only [Bool.and_eq_true, Bool.not_eq_true'] at h
  exact fun x hx => ⟨lev_has h.2.1 x hx, lev_has h.2.2 x hx⟩
theorem lv_pure {x : Bs} (h : has 43 x = false ∧ has 35 x = false) (b : Bool) : lvOK x b = true := by
  unfold lvOK; rw [h.1, h.2]; rfl
theorem fok_pure {L : List Bs} (h : pure L) : fok L = true := by
  induction L with
  | nil => rfl
  | cons x r ih =>
    unfold fok
    rw [lv_pure (h x (by simp)), ih fun y hy => h y (by simp [hy])]
    rfl
theorem name_filter {N : ByteArray} (h : nameB N = true) : filtB N = true := by
  have hp := fok_pure (name_pure h)
  unfold nameB at h
  unfold filtB
  rw [hp]
  simp only [Bool.and_eq_true] at h ⊢
  exact ⟨h.1, trivial⟩
theorem pure_ne {x : Bs} (h : has 43 x = false ∧ has 35 x = false) : x ≠ [43] ∧ x ≠ [35] :=
  ⟨by rintro rfl; exact absurd h.1 (by decide), by rintro rfl; exact absurd h.2 (by decide)⟩
theorem mtL_pure {L : List Bs} (h : pure L) (n : List Bs) : mtL L n = decide (L = n) := by
  induction L generalizing n with
  | nil => cases n <;> simp [mtL]
  | cons x r ih =>
    have hx := pure_ne (h x (by simp))
    unfold mtL
    rw [if_neg hx.2]
    cases n with
    | nil => simp
    | cons y t =>
      have e : (x == [43]) = false := beq_eq_false_iff_ne.2 hx.1
      simp only [e, Bool.false_or, ih fun z hz => h z (by simp [hz]), List.cons.injEq]
      rw [Bool.eq_iff_iff]
      simp
theorem dol_self {N : ByteArray} (h : nameB N = true) (M : Bs) : dol N.data.toList M = false := by
  unfold nameB has at h
  simp only [Bool.and_eq_true, Bool.not_eq_true'] at h
  unfold dol
  cases hN : N.data.toList with
  | nil => simp
  | cons c r =>
    rw [hN, List.elem_cons, List.elem_cons] at h
    have h1 : c ≠ 43 := by rintro rfl; exact absurd h.2.1 (by simp)
    have h2 : c ≠ 35 := by rintro rfl; exact absurd h.2.2 (by simp)
    simp [h1, h2]
theorem name_ne {N : ByteArray} (h : nameB N = true) : N.data.toList ≠ [] := by
  unfold nameB szd at h
  simp only [Bool.and_eq_true, decide_eq_true_eq] at h
  have hs := h.1.2.1
  intro e
  have : N.data.toList.length = N.size := rfl
  rw [e] at this
  simp at this
  omega
theorem filt_ne {N : ByteArray} (h : filtB N = true) : N.data.toList ≠ [] := by
  unfold filtB szd at h
  simp only [Bool.and_eq_true, decide_eq_true_eq] at h
  have hs := h.1.2.1
  intro e
  have : N.data.toList.length = N.size := rfl
  rw [e] at this
  simp at this
  omega
/-- A name matches itself, as a filter, and no other name. -/
theorem own_match {N O : ByteArray} (h : nameB N = true) : mtB N O = decide (N = O) := by
  unfold mtB
  rw [name_filter h, dol_self h, mtL_pure (name_pure h)]
  simp only [Bool.true_and, Bool.not_false]
  by_cases e : N = O
  · subst e; simp [h]
  · have : ¬ lev N.data.toList = lev O.data.toList := fun hl => e (by
      have := lev_inj hl
      apply ByteArray.ext
      apply Array.toList_inj.1 this)
    simp [this, e]
theorem other_match {F N : ByteArray} (h : nameB N = false) : mtB F N = false := by
  unfold mtB; rw [h]; simp

/-! ### With a level left open -/
theorem head_jn (x : Bs) (r : List Bs) : (jn (x :: r)).head? = if x = [] then (if r = [] then none else some 47) else x.head? := by
  cases x with
  | nil =>
    cases r with
    | nil => rfl
    | cons y t => rfl
  | cons c u =>
    cases r with
    | nil => rfl
    | cons y t => rfl
theorem pure_set {L : List Bs} (h : pure L) (k : Nat) : fok (L.set k [43]) = true := by
  induction L generalizing k with
  | nil => rfl
  | cons x r ih =>
    have hr : pure r := fun y hy => h y (by simp [hy])
    cases k with
    | zero =>
      rw [List.set_cons_zero]
      unfold fok
      rw [fok_pure hr]
      have : lvOK [43] r.isEmpty = true := by unfold lvOK; cases r.isEmpty <;> decide
      rw [this]; rfl
    | succ k =>
      rw [List.set_cons_succ]
      unfold fok
      rw [lv_pure (h x (by simp)), ih hr]; rfl
theorem pure_take {L : List Bs} (h : pure L) (k : Nat) : fok (L.take k ++ [[35]]) = true := by
  induction L generalizing k with
  | nil => simp; decide
  | cons x r ih =>
    cases k with
    | zero => simp; decide
    | succ k =>
      rw [List.take_succ_cons, List.cons_append]
      unfold fok
      rw [lv_pure (h x (by simp)), ih (fun y hy => h y (by simp [hy]))]; rfl
theorem mtL_cons {x : Bs} (hx : x ≠ [35]) (f : List Bs) (y : Bs) (n : List Bs) : mtL (x :: f) (y :: n) = ((x == [43] || x == y) && mtL f n) := by
  conv => lhs; unfold mtL
  rw [if_neg hx]
theorem mtL_set {L : List Bs} (h : pure L) (k : Nat) : mtL (L.set k [43]) L = true := by
  induction L generalizing k with
  | nil => rfl
  | cons x r ih =>
    have hr : pure r := fun y hy => h y (by simp [hy])
    have hx := pure_ne (h x (by simp))
    cases k with
    | zero =>
      rw [List.set_cons_zero]
      rw [mtL_cons (by decide), mtL_pure hr]
      simp
    | succ k =>
      rw [List.set_cons_succ, mtL_cons hx.2, ih hr]
      simp
theorem mtL_take {L : List Bs} (h : pure L) (k : Nat) : mtL (L.take k ++ [[35]]) L = true := by
  induction L generalizing k with
  | nil => simp [mtL]
  | cons x r ih =>
    have hr : pure r := fun y hy => h y (by simp [hy])
    have hx := pure_ne (h x (by simp))
    cases k with
    | zero => simp [mtL]
    | succ k =>
      rw [List.take_succ_cons, List.cons_append, mtL_cons hx.2, ih hr]
      simp
/-- How long it may be, apart from its size. -/
theorem szd_iff (l : Bs) (ht : txt l = true) (h0 : l ≠ []) (h32 : (lev l).length ≤ 32) : szd ⟨l.toArray⟩ = decide (l.length ≤ 256) := by
  have e : (⟨l.toArray⟩ : ByteArray).size = l.length := by simp [ByteArray.size]
  have hl : 0 < l.length := List.length_pos_iff.2 h0
  unfold szd
  unfold txt at ht
  rw [e, ht]
  have e2 : (⟨l.toArray⟩ : ByteArray).data.toList = l := rfl
  rw [e2]
  simp [hl, h32]
theorem txt_of_name {N : ByteArray} (h : nameB N = true) : txt N.data.toList = true := by
  unfold nameB szd at h
  simp only [Bool.and_eq_true] at h
  rw [txt_iff]
  exact h.1.1
theorem lev32_of_name {N : ByteArray} (h : nameB N = true) : (lev N.data.toList).length ≤ 32 := by
  unfold nameB szd at h
  simp only [Bool.and_eq_true, decide_eq_true_eq] at h
  exact h.1.2.2.2
theorem jn_ne {L : List Bs} (h : ∃ x ∈ L, x ≠ []) : jn L ≠ [] := by
  induction L with
  | nil => obtain ⟨x, hx, _⟩ := h; simp at hx
  | cons x r ih =>
    obtain ⟨y, hy, hne⟩ := h
    cases r with
    | nil =>
      rcases List.mem_cons.1 hy with rfl | hy
      · exact hne
      · simp at hy
    | cons z t => rw [jn_cons x (by simp)]; simp
theorem dol_jn {x : Bs} {r : List Bs} {N : Bs} (hx : has 43 x = false ∧ has 35 x = false) : dol (jn (x :: r)) N = false := by
  unfold dol
  rw [head_jn]
  cases x with
  | nil => cases r <;> simp
  | cons c u =>
    have h1 : c ≠ 43 := by rintro rfl; exact absurd hx.1 (by simp [has])
    have h2 : c ≠ 35 := by rintro rfl; exact absurd hx.2 (by simp [has])
    simp [h1, h2]
/-- With the k-th level left open. -/
theorem open_match {N : ByteArray} (h : nameB N = true) {k : Nat} (hk : k < (lev N.data.toList).length) :
    mtB ⟨(jn ((lev N.data.toList).set k [43])).toArray⟩ N = (decide ((jn ((lev N.data.toList).set k [43])).length ≤ 256) && (decide (0 < k) || !(N.data.toList.head? == some 36))) := by
  have hp := name_pure h
  have ht := txt_lev _ (txt_of_name h)
  have hc := lev_clean N.data.toList
  have h32 := lev32_of_name h
  obtain ⟨L, hL⟩ : ∃ L, lev N.data.toList = L := ⟨_, rfl⟩
  rw [hL] at hp ht hc h32 hk ⊢
  have hset : clean (L.set k [43]) := fun x hx => by
    rcases List.mem_or_eq_of_mem_set hx with hx | rfl
    · exact hc x hx
    · rfl
  have hmem : [43] ∈ L.set k [43] := List.mem_set hk _
  have hne : L.set k [43] ≠ [] := List.ne_nil_of_mem hmem
  have hlev := lev_jn hne hset
  have htx : txt (jn (L.set k [43])) = true := txt_jn fun x hx => by
    rcases List.mem_or_eq_of_mem_set hx with hx | rfl
    · exact ht x hx
    · rfl
  have hz : szd ⟨(jn (L.set k [43])).toArray⟩ = decide ((jn (L.set k [43])).length ≤ 256) :=
    szd_iff _ htx (jn_ne ⟨_, hmem, by decide⟩) (by rw [hlev, List.length_set]; exact h32)
  have hf : filtB ⟨(jn (L.set k [43])).toArray⟩ = decide ((jn (L.set k [43])).length ≤ 256) := by
    unfold filtB
    rw [hz]
    show (_ && fok (lev (jn (L.set k [43])))) = _
    rw [hlev, pure_set hp, Bool.and_true]
  unfold mtB
  rw [hf, h, hL]
  show (_ && (true && (!dol (jn (L.set k [43])) N.data.toList && mtL (lev (jn (L.set k [43]))) L))) = _
  rw [hlev, mtL_set hp, Bool.true_and, Bool.and_true]
  congr 1
  cases L with
  | nil => simp at hk
  | cons x r =>
    cases k with
    | zero =>
      rw [List.set_cons_zero]
      unfold dol
      rw [head_jn]
      simp
    | succ k =>
      rw [List.set_cons_succ, dol_jn (hp x (by simp))]
      simp
/-- With all levels from the k-th on left open. -/
theorem rest_match {N : ByteArray} (h : nameB N = true) {k : Nat} (hk : k < (lev N.data.toList).length) :
    mtB ⟨(jn ((lev N.data.toList).take k ++ [[35]])).toArray⟩ N = (decide ((jn ((lev N.data.toList).take k ++ [[35]])).length ≤ 256) && (decide (0 < k) || !(N.data.toList.head? == some 36))) := by
  have hp := name_pure h
  have ht := txt_lev _ (txt_of_name h)
  have hc := lev_clean N.data.toList
  have h32 := lev32_of_name h
  obtain ⟨L, hL⟩ : ∃ L, lev N.data.toList = L := ⟨_, rfl⟩
  rw [hL] at hp ht hc h32 hk ⊢
  have hset : clean (L.take k ++ [[35]]) := fun x hx => by
    rcases List.mem_append.1 hx with hx | hx
    · exact hc x (List.mem_of_mem_take hx)
    · rw [List.mem_singleton.1 hx]; rfl
  have hmem : [35] ∈ L.take k ++ [[35]] := by simp
  have hne : L.take k ++ [[35]] ≠ [] := List.ne_nil_of_mem hmem
  have hlev := lev_jn hne hset
  have htx : txt (jn (L.take k ++ [[35]])) = true := txt_jn fun x hx => by
    rcases List.mem_append.1 hx with hx | hx
    · exact ht x (List.mem_of_mem_take hx)
    · rw [List.mem_singleton.1 hx]; rfl
  have hz : szd ⟨(jn (L.take k ++ [[35]])).toArray⟩ = decide ((jn (L.take k ++ [[35]])).length ≤ 256) :=
    szd_iff _ htx (jn_ne ⟨_, hmem, by decide⟩) (by rw [hlev]; simp; omega)
  have hf : filtB ⟨(jn (L.take k ++ [[35]])).toArray⟩ = decide ((jn (L.take k ++ [[35]])).length ≤ 256) := by
    unfold filtB
    rw [hz]
    show (_ && fok (lev (jn (L.take k ++ [[35]])))) = _
    rw [hlev, pure_take hp, Bool.and_true]
  unfold mtB
  rw [hf, h, hL]
  show (_ && (true && (!dol (jn (L.take k ++ [[35]])) N.data.toList && mtL (lev (jn (L.take k ++ [[35]]))) L))) = _
  rw [hlev, mtL_take hp, Bool.true_and, Bool.and_true]
  congr 1
  cases L with
  | nil => simp at hk
  | cons x r =>
    cases k with
    | zero =>
      unfold dol
      simp [jn]
    | succ k =>
      rw [List.take_succ_cons, List.cons_append, dol_jn (hp x (by simp))]
      simp
end Go.Proofs.YtenoaonlngndpaaDoor.Pl
