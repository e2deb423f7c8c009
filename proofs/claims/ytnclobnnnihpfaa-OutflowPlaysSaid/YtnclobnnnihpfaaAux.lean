/- Helpers for walks, over whatever program: one element appended to a row of the call's own; a row of bytes as a string. -/
import Derived.WalkKit
import Derived.Maps.AppendAt
import Derived.Laws.IdiomStrings
import Derived.Laws.BytesArg
import Derived.Lib.Hide
import GoSem.ClaimJoined
import Derived.PlainAid
import Derived.Laws.BitsAllLaws
import Derived.Laws.BitsLemmas
namespace Go.Proofs.Ytnclobnnnihpfaa
open Go.RowKit
theorem ret_int {k : IntKind} {a b : Int} (h : a = b) : Ending.returned (.int k a) = .returned (.int k b) := by rw [h]
theorem ret_bool {a b : Bool} (h : a = b) : Ending.returned (.bool a) = .returned (.bool b) := by rw [h]
theorem ret2 {a b a' b' : Value} (h1 : a = a') (h2 : b = b') : Ending.returned (.tuple #[a, b]) = .returned (.tuple #[a', b']) := by rw [h1, h2]
theorem ret3 {a b c a' b' c' : Value} (h1 : a = a') (h2 : b = b') (h3 : c = c') : Ending.returned (.tuple #[a, b, c]) = .returned (.tuple #[a', b', c']) := by rw [h1, h2, h3]
theorem val_str {l l' : List UInt8} (h : l = l') : Value.string ⟨l.toArray⟩ = Value.string ⟨l'.toArray⟩ := by rw [h]
theorem val_bytes {s s' : ByteArray} (h : s = s') : Value.string s = Value.string s' := by rw [h]
theorem ret_bytes {s s' : ByteArray} (h : s = s') : Ending.returned (.string s) = .returned (.string s') := by rw [h]
/-- How many bytes a string has. -/
def strSize : Value → Nat
  | .string s => s.size
  | _ => 0
theorem val_int {k : IntKind} {a b : Int} (h : a = b) : Value.int k a = Value.int k b := by rw [h]
theorem val_bool {a b : Bool} (h : a = b) : Value.bool a = Value.bool b := by rw [h]
/-- A number's lowest eight bits, as a byte. -/
def by8 (n : Int) : UInt8 := UInt8.ofNat (n % 256).toNat
theorem by8_toNat (n : Int) : ((by8 n).toNat : Int) = n % 256 := by
  unfold by8
  rw [UInt8.toNat_ofNat']
  omega
theorem by8_of {x : Int} (h0 : 0 ≤ x) (h1 : x < 256) : UInt8.ofNat x.toNat = by8 x := by
  unfold by8
  rw [Int.emod_eq_of_lt h0 h1]
/-- A string with one byte more behind it. -/
theorem str_snoc (l : List UInt8) {x : Int} (h0 : 0 ≤ x) (h1 : x < 256) : Value.string ((⟨l.toArray⟩ : ByteArray) ++ ⟨#[UInt8.ofNat x.toNat]⟩) = Value.string ⟨(l ++ [by8 x]).toArray⟩ := by
  rw [by8_of h0 h1]
  refine congrArg Value.string ?_
  apply ByteArray.ext
  simp
/-- A string with one byte more ahead of it. -/
theorem str_cons (l : List UInt8) {x : Int} (h0 : 0 ≤ x) (h1 : x < 256) : Value.string ((⟨#[UInt8.ofNat x.toNat]⟩ : ByteArray) ++ ⟨l.toArray⟩) = Value.string ⟨(by8 x :: l).toArray⟩ := by
  rw [by8_of h0 h1]
  refine congrArg Value.string ?_
  apply ByteArray.ext
  simp
/-- What the form's own reach says of a string. -/
theorem size_reach {a : ByteArray} (h : a.data.toList.length ≤ reachBytes) : a.size ≤ 140737488351232 := by
  have e : reachBytes = 140737488351232 := by decide
  have e2 : a.size = a.data.toList.length := rfl
  rw [e2, ← e]
  exact h
theorem i64_bd {n : Int} (h : (Lit.int .i64 n).wf = true) : -9223372036854775808 ≤ n ∧ n ≤ 9223372036854775807 := by
  simpa [Lit.wf, IntKind.min, IntKind.max, IntKind.signed, IntKind.bits] using h
section
variable {P : Program}

/-- 'xs = append(xs, u)': one element of one cell. -/
theorem wpList_push {W w : World} {ops : Array Oper} {rest : List Oper} {o : Oper} {a : Act} {Q : Exit → Act → World → Prop} (s x : Operand) (t e : TypeId) (i : TypeInfo) (z : Value) (bytes : Nat)
    (hgd : o.guard = none) (ho : o.op = .call { callee := .builtin .append, args := #[s, x], argTypes := #[t, t] })
    (ht : P.underlying t = some (.slice e)) (hi : P.info? e = some i) (hz : i.zero = some z)
    (hsize : i.size = 1) (hby : i.bytes = bytes) (hzs : z.cells.size = 1)
    (B : Nat) (v : Value) (n : Nat) (xs : List Value) (u : Value) (hs : a.eval s = v) (hx : a.eval x = .slice (some ⟨w.heap.size, 0, none⟩) 1 1)
    (hown : w.ownsRow B e 1 v n xs) (hbel : Below B W w) (hB : B ≤ w.heap.size) (hu : u.oneCell' = true)
    (h63 : n + 1 ≤ maxLen) (hbytes : (n + 1) * bytes ≤ 140737488355328)
    (h : ∀ v' w', w'.ownsRow B e 1 v' (n + 1) (xs ++ [u]) → Below B W w' → w.heap.size < w'.heap.size → v' ≠ .slice none 0 0 → wpList P ops Q rest (a.put o.dst v') w') :
    wpList P ops Q (o :: rest) a (w.alloc (.cells #[u] e)) := by
  refine wpList_append_own (w.alloc (.cells #[u] e)) hgd s x t ho B e i z 1 bytes ht hi hz hsize hby hzs (by decide) v n xs hs (hown.alloc _) ⟨w.heap.size, 0, none⟩ 1 1 [u] hx rfl
    (cell_one_new _ _ _) (by intro y hy; simp at hy; subst hy; exact hu) h63 hbytes (by simp; omega) ?_
  intro v' w' hown' hg hn
  refine h v' w' hown' ?_ ?_ ?_
  · exact (hbel.alloc hB _).grown hg (by simp; omega) fun k hk => (hown.lt k hk).1
  · have := hg.size
    simp at this
    omega
  · intro hv
    have := (hn.1 hv).2
    omega

/-- The cells of a block that has just been laid. -/
theorem cells_new (W : World) (k : IntKind) (t : TypeId) (l : List Int) (b : Nat) (h : b = W.heap.size) :
    ∀ j, j < l.length → (W.alloc (.cells (l.map (Value.int k)).toArray t)).cell? ⟨b, j, none⟩ = some (.int k (l.getD j 0)) := by
  intro j hj
  subst h
  rw [World.cell?_alloc_mark]
  simp [List.getD, List.getElem?_eq_getElem hj]

/-- Cells of bytes. -/
def cells8 (l : List UInt8) : List Value := l.map fun b => Value.int .u8 (b.toNat : Int)
theorem cells8_length (l : List UInt8) : (cells8 l).length = l.length := by simp [cells8]

theorem cells8_snoc (l : List UInt8) (n : Int) (x : Int) (h : x = n % 256) : cells8 l ++ [Value.int .u8 x] = cells8 (l ++ [by8 n]) := by
  subst h
  simp [cells8, by8_toNat]

/-- 'string(b)' of a row of the call's own. -/
theorem run_string_own {w : World} (src dst e : TypeId) (B : Nat) (v : Value) (n : Nat) (l : List UInt8) (hs : P.underlying src = some (.slice e)) (he : P.underlying e = some (.int .u8)) (hd : P.underlying dst = some .string)
    (hown : w.ownsRow B e 1 v n (cells8 l)) : (convert src dst v).run P w = .ok (.string ⟨l.toArray⟩) w := by
  rcases hown.2 with ⟨rfl, hx⟩ | ⟨g, cap, cur, rfl, _, _, hnc, _⟩
  · have : l = [] := by
      have := hown.1
      rw [cells8_length] at this
      exact List.eq_nil_of_length_eq_zero (by omega)
    subst this
    rw [run_convert_bytes_nil w src e hs he 0 0 dst hd]
    rfl
  · have hn : l.length = n := by have := hown.1; rw [cells8_length] at this; omega
    subst hn
    refine run_convert_bytes_back w src dst e ⟨g, 0, none⟩ cap l hs he hd fun j hj => ?_
    refine hown.cells (g := g) rfl j _ ?_
    simp [cells8, List.getElem?_eq_getElem hj]

/-- 'string([]byte{x})'. -/
theorem run_string_one {w : World} (src dst e : TypeId) (x : Int) (hs : P.underlying src = some (.slice e)) (he : P.underlying e = some (.int .u8)) (hd : P.underlying dst = some .string) :
    (convert src dst (.slice (some ⟨w.heap.size, 0, none⟩) 1 1)).run P (w.alloc (.cells #[.int .u8 x] e)) = .ok (.string ⟨#[UInt8.ofNat x.toNat]⟩) (w.alloc (.cells #[.int .u8 x] e)) := by
  refine run_convert_bytes_arg (w.alloc (.cells #[.int .u8 x] e)) src e hs he w.heap.size 0 1 1 [x] rfl (fun i hi => ?_) dst hd
  obtain rfl : i = 0 := by omega
  exact cell_one_new w (.int .u8 x) e 0 _ rfl

theorem ofInt_i64 (a : Nat) (ha : a < 9223372036854775808) : (BitVec.ofInt 64 (a : Int)).toNat = a := by
  rw [BitVec.ofInt_natCast, BitVec.toNat_ofNat]; exact Nat.mod_eq_of_lt (by omega)
theorem i64_and_nat (a b : Nat) (ha : a < 9223372036854775808) (hb : b < 9223372036854775808) : bits .and .i64 (a : Int) (b : Int) = ((a &&& b : Nat) : Int) := by
  have hx : a &&& b < 2 ^ 63 := Nat.and_lt_two_pow _ (by omega)
  show IntKind.i64.wrap ((BitVec.ofInt 64 (a : Int) &&& BitVec.ofInt 64 (b : Int)).toNat : Int) = _
  rw [BitVec.toNat_and, ofInt_i64 a ha, ofInt_i64 b hb, IntKind.wrap_i64]
  omega
theorem i64_or_nat (a b : Nat) (ha : a < 9223372036854775808) (hb : b < 9223372036854775808) : bits .or .i64 (a : Int) (b : Int) = ((a ||| b : Nat) : Int) := by
  have hx : a ||| b < 2 ^ 63 := Nat.or_lt_two_pow (by omega) (by omega)
  show IntKind.i64.wrap ((BitVec.ofInt 64 (a : Int) ||| BitVec.ofInt 64 (b : Int)).toNat : Int) = _
  rw [BitVec.toNat_or, ofInt_i64 a ha, ofInt_i64 b hb, IntKind.wrap_i64]
  omega
/-- 'n | c << k' where n lies below. -/
theorem or_add (k : Nat) {n c : Int} (h0 : 0 ≤ n) (h1 : n < 2 ^ k) (c0 : 0 ≤ c) (hb : 2 ^ k * c + n < 9223372036854775808) : bits .or .i64 n (2 ^ k * c) = n + 2 ^ k * c := by
  obtain ⟨a, rfl⟩ := Int.eq_ofNat_of_zero_le h0
  obtain ⟨b, rfl⟩ := Int.eq_ofNat_of_zero_le c0
  have e : ((2 : Int) ^ k * (b : Int)) = ((2 ^ k * b : Nat) : Int) := by simp
  have ha : a < 2 ^ k := by
    have : ((a : Nat) : Int) < ((2 ^ k : Nat) : Int) := by simpa using h1
    exact Int.ofNat_lt.1 this
  rw [e] at hb ⊢
  rw [i64_or_nat _ _ (by omega) (by omega), Nat.or_comm, ← Nat.two_pow_add_eq_or_of_lt ha b]
  omega
/-- 'c << k | n' where n lies below. -/
theorem or_low (k : Nat) {n c : Int} (h0 : 0 ≤ n) (h1 : n < 2 ^ k) (c0 : 0 ≤ c) (hb : 2 ^ k * c + n < 9223372036854775808) : bits .or .i64 (2 ^ k * c) n = 2 ^ k * c + n := by
  obtain ⟨a, rfl⟩ := Int.eq_ofNat_of_zero_le h0
  obtain ⟨b, rfl⟩ := Int.eq_ofNat_of_zero_le c0
  have e : ((2 : Int) ^ k * (b : Int)) = ((2 ^ k * b : Nat) : Int) := by simp
  have ha : a < 2 ^ k := by
    have : ((a : Nat) : Int) < ((2 ^ k : Nat) : Int) := by simpa using h1
    exact Int.ofNat_lt.1 this
  rw [e] at hb ⊢
  rw [i64_or_nat _ _ (by omega) (by omega), ← Nat.two_pow_add_eq_or_of_lt ha b]
  omega
/-- 'x & 127' of a number that is not negative. -/
theorem and_127 {x : Int} (h : 0 ≤ x) (h1 : x ≤ 9223372036854775807) : bits .and .i64 x 127 = x % 128 := by
  obtain ⟨a, rfl⟩ := Int.eq_ofNat_of_zero_le h
  rw [show (127 : Int) = ((127 : Nat) : Int) from rfl, i64_and_nat a 127 (by omega) (by omega), nat_mask7]
  omega
/-- 'x | 128' of a byte below 128. -/
theorem or_128 {x : Int} (h : 0 ≤ x) (h1 : x < 128) : bits .or .u8 x 128 = x + 128 := by
  obtain ⟨a, rfl⟩ := Int.eq_ofNat_of_zero_le h
  rw [show (128 : Int) = ((128 : Nat) : Int) from rfl, u8_or_nat a 128 (by omega) (by omega), Nat.or_comm]
  have : 128 ||| a = 128 + a := by
    have := Nat.two_pow_add_eq_or_of_lt (i := 7) (b := a) (by omega) 1
    simpa using this.symm
  omega
end
end Go.Proofs.Ytnclobnnnihpfaa
