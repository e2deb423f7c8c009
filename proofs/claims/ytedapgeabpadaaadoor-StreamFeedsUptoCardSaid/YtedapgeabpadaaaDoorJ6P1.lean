/- Parts of the proof, joined: Aux, PropP, KindPlain, TextPlain, TextTabs, Fault, Tail, Char, CharAny, RefFault, FixPlain, Fix. -/
import Derived.WalkKit
import Derived.Maps.AppendAt
import Derived.Laws.IdiomStrings
import Derived.Laws.BytesArg
import Derived.Lib.Hide
import GoSem.ClaimJoined
import Derived.PlainAid
import Derived.Laws.BitsAllLaws
import Derived.Laws.BitsLemmas
import Derived.Shelf.Unicode.DecodeAny
import Derived.Laws.Strings
import Derived.Test.YtedapgeabpadaaaDoorRows
import Derived.Test.YtedapgeabpadaaaDoorShelf
import Derived.Lib.LaidU8T
import Derived.PinnedBridge
import Derived.Shelf.Spec.BytesIndexFunc
import Derived.WalkLawsBesides
import Derived.WalkSpells
import Derived.Handy
import Derived.Test.YtedapgeabpadaaaDoorChecked
namespace Go.Proofs.YtedapgeabpadaaaDoor
open Go.RowKit
theorem ret_int {k : IntKind} {a b : Int} (h : a = b) : Ending.returned (.int k a) = .returned (.int k b) := by rw [h]
theorem ret_bool {a b : Bool} (h : a = b) : Ending.returned (.bool a) = .returned (.bool b) := by rw [h]
theorem ret2 {a b a' b' : Value} (h1 : a = a') (h2 : b = b') : Ending.returned (.tuple #[a, b]) = .returned (.tuple #[a', b']) := by rw [h1, h2]
theorem ret3 {a b c a' b' c' : Value} (h1 : a = a') (h2 : b = b') (h3 : c = c') : Ending.returned (.tuple #[a, b, c]) = .returned (.tuple #[a', b', c']) := by rw [h1, h2, h3]
theorem val_bytes {s s' : ByteArray} (h : s = s') : Value.string s = Value.string s' := by rw [h]
theorem val_int {k : IntKind} {a b : Int} (h : a = b) : Value.int k a = Value.int k b := by rw [h]
theorem val_bool {a b : Bool} (h : a = b) : Value.bool a = Value.bool b := by rw [h]
/-- A number's lowest eight bits, as a byte. -/
def by8 (n : Int) : UInt8 := UInt8.ofNat (n % 256).toNat
theorem by8_toNat (n : Int) : ((by8 n).toNat : Int) = n % 256 := by
  unfold by8
  rw [UInt8.toNat_ofNat']
  omega
theorem i64_bd {n : Int} (h : (Lit.int .i64 n).wf = true) : -9223372036854775808 ≤ n ∧ n ≤ 9223372036854775807 := by
  simpa [Lit.wf, IntKind.min, IntKind.max, IntKind.signed, IntKind.bits] using h
section
variable {P : Program}

/-- 'xs = append(xs, u)': one element of one cell. -/
theorem wpList_push {W w : World} {ops : Array Oper} {rest : List Oper} {o : Oper} {a : Act} {Q : Exit → Act → World → Prop} (s x : Operand) (t e : TypeId) (i : TypeInfo) (z : Value) (bytes : Nat)
    (hgd : o.guard = none) (ho : o.op = .call { callee := .builtin .append, args := #[s, x], argTypes := #[t, t] })
    (ht : P.underlying t = some (.slice e)) (hi : P.info? e = some i) (hz : i.zero = some z)
    (hsize : i.size = 1) (hby : i.bytes = bytes) (hzs : z.cells.size = 1)
    (B : Nat) (v : Value) (n : Nat) (xs : List Value) (u : Value) (hs : a.eval s = v) (hx : a.eval x = .slice (some ⟨w.heap.size, 0, none⟩) 1 1)
    (hown : w.ownsRow B e 1 v n xs) (hbel : Below B W w) (hB : B ≤ w.heap.size) (hu : u.oneCell' = true)
    (h63 : n + 1 ≤ maxLen) (hbytes : (n + 1) * bytes ≤ 140737488355328)
    (h : ∀ v' w', w'.ownsRow B e 1 v' (n + 1) (xs ++ [u]) → Below B W w' → w.heap.size < w'.heap.size → v' ≠ .slice none 0 0 → wpList P ops Q rest (a.put o.dst v') w') :
    wpList P ops Q (o :: rest) a (w.alloc (.cells #[u] e)) := by
  refine wpList_append_own (w.alloc (.cells #[u] e)) hgd s x t ho B e i z 1 bytes ht hi hz hsize hby hzs (by decide) v n xs hs (hown.alloc _) ⟨w.heap.size, 0, none⟩ 1 1 [u] hx rfl
    (cell_one_new _ _ _) (by intro y hy; simp at hy; subst hy; exact hu) h63 hbytes (by simp; omega) ?_
  intro v' w' hown' hg hn
  refine h v' w' hown' ?_ ?_ ?_
  · exact (hbel.alloc hB _).grown hg (by simp; omega) fun k hk => (hown.lt k hk).1
  · have := hg.size
    simp at this
    omega
  · intro hv
    have := (hn.1 hv).2
    omega

/-- The cells of a block that has just been laid. -/
theorem cells_new (W : World) (k : IntKind) (t : TypeId) (l : List Int) (b : Nat) (h : b = W.heap.size) :
    ∀ j, j < l.length → (W.alloc (.cells (l.map (Value.int k)).toArray t)).cell? ⟨b, j, none⟩ = some (.int k (l.getD j 0)) := by
  intro j hj
  subst h
  rw [World.cell?_alloc_mark]
  simp [List.getD, List.getElem?_eq_getElem hj]

theorem ofInt_i64 (a : Nat) (ha : a < 9223372036854775808) : (BitVec.ofInt 64 (a : Int)).toNat = a := by
  rw [BitVec.ofInt_natCast, BitVec.toNat_ofNat]; exact Nat.mod_eq_of_lt (by omega)
theorem i64_and_nat (a b : Nat) (ha : a < 9223372036854775808) (hb : b < 9223372036854775808) : bits .and .i64 (a : Int) (b : Int) = ((a &&& b : Nat) : Int) := by
  have hx : a &&& b < 2 ^ 63 := Nat.and_lt_two_pow _ (by omega)
  show IntKind.i64.wrap ((BitVec.ofInt 64 (a : Int) &&& BitVec.ofInt 64 (b : Int)).toNat : Int) = _
  rw [BitVec.toNat_and, ofInt_i64 a ha, ofInt_i64 b hb, IntKind.wrap_i64]
  omega
theorem i64_or_nat (a b : Nat) (ha : a < 9223372036854775808) (hb : b < 9223372036854775808) : bits .or .i64 (a : Int) (b : Int) = ((a ||| b : Nat) : Int) := by
  have hx : a ||| b < 2 ^ 63 := Nat.or_lt_two_pow (by omega) (by omega)
  show IntKind.i64.wrap ((BitVec.ofInt 64 (a : Int) ||| BitVec.ofInt 64 (b : Int)).toNat : Int) = _
  rw [BitVec.toNat_or, ofInt_i64 a ha, ofInt_i64 b hb, IntKind.wrap_i64]
  omega
/-- 'n | c << k' where n lies below. -/
theorem or_add (k : Nat) {n c : Int} (h0 : 0 ≤ n) (h1 : n < 2 ^ k) (c0 : 0 ≤ c) (hb : 2 ^ k * c + n < 9223372036854775808) : bits .or .i64 n (2 ^ k * c) = n + 2 ^ k * c := by
  obtain ⟨a, rfl⟩ := Int.eq_ofNat_of_zero_le h0
  obtain ⟨b, rfl⟩ := Int.eq_ofNat_of_zero_le c0
  have e : ((2 : Int) ^ k * (b : Int)) = ((2 ^ k * b : Nat) : Int) := by simp
  have ha : a < 2 ^ k := by
    have : ((a : Nat) : Int) < ((2 ^ k : Nat) : Int) := by simpa using h1
    exact Int.ofNat_lt.1 this
  rw [e] at hb ⊢
  rw [i64_or_nat _ _ (by omega) (by omega), Nat.or_comm, ← Nat.two_pow_add_eq_or_of_lt ha b]
  omega
/-- 'c << k | n' where n lies below. -/
theorem or_low (k : Nat) {n c : Int} (h0 : 0 ≤ n) (h1 : n < 2 ^ k) (c0 : 0 ≤ c) (hb : 2 ^ k * c + n < 9223372036854775808) : bits .or .i64 (2 ^ k * c) n = 2 ^ k * c + n := by
  obtain ⟨a, rfl⟩ := Int.eq_ofNat_of_zero_le h0
  obtain ⟨b, rfl⟩ := Int.eq_ofNat_of_zero_le c0
  have e : ((2 : Int) ^ k * (b : Int)) = ((2 ^ k * b : Nat) : Int) := by simp
  have ha : a < 2 ^ k := by
    have : ((a : Nat) : Int) < ((2 ^ k : Nat) : Int) := by simpa using h1
    exact Int.ofNat_lt.1 this
  rw [e] at hb ⊢
  rw [i64_or_nat _ _ (by omega) (by omega), ← Nat.two_pow_add_eq_or_of_lt ha b]
  omega
/-- 'x & 127' of a number that is not negative. -/
theorem and_127 {x : Int} (h : 0 ≤ x) (h1 : x ≤ 9223372036854775807) : bits .and .i64 x 127 = x % 128 := by
  obtain ⟨a, rfl⟩ := Int.eq_ofNat_of_zero_le h
  rw [show (127 : Int) = ((127 : Nat) : Int) from rfl, i64_and_nat a 127 (by omega) (by omega), nat_mask7]
  omega
end
end Go.Proofs.YtedapgeabpadaaaDoor

namespace Go.Proofs.YtedapgeabpadaaaDoor
set_option linter.unusedVariables false
open Go.RowKit

structure Pp where
  id : Int
  n : Int
  s : ByteArray
  t : ByteArray
def ppA (p : Pp) : Array Value := #[.int .i64 p.id, .int .i64 p.n, .string p.s, .string p.t]
def ppV (p : Pp) : Value := .agg (ppA p)
def flat (L : List Pp) : List Value := L.flatMap fun p => (ppA p).toList
theorem flat_snoc (L : List Pp) (p : Pp) : flat L ++ (ppA p).toList = flat (L ++ [p]) := by unfold flat; simp
theorem flat_at {p : Pp} : ∀ {L : List Pp} {i : Nat} {j : Nat} {u : Value}, L[i]? = some p → (ppA p).toList[j]? = some u → (flat L)[i * 4 + j]? = some u
  | q :: r, 0, j, u, h, hj => by
    obtain rfl : q = p := by simpa using h
    have hl : (ppA q).toList.length = 4 := rfl
    have hlt : j < 4 := by rw [← hl]; exact (List.getElem?_eq_some_iff.1 hj).1
    show ((ppA q).toList ++ flat r)[0 * 4 + j]? = some u
    rw [Nat.zero_mul, Nat.zero_add, List.getElem?_append_left (by rw [hl]; exact hlt)]
    exact hj
  | q :: r, i + 1, j, u, h, hj => by
    have hl : (ppA q).toList.length = 4 := rfl
    show ((ppA q).toList ++ flat r)[(i + 1) * 4 + j]? = some u
    rw [List.getElem?_append_right (by rw [hl]; omega), hl, show (i + 1) * 4 + j - 4 = i * 4 + j from by omega]
    exact flat_at (by simpa using h) hj
theorem flat_len (L : List Pp) : (flat L).length = L.length * 4 := by
  induction L with
  | nil => rfl
  | cons p r ih =>
    show ((ppA p).toList ++ flat r).length = _
    rw [List.length_append, ih, List.length_cons]
    have : (ppA p).toList.length = 4 := rfl
    omega
/-- A row of properties, from an offset on. -/
def PRow (w : World) (A : Option Addr) (L : List Pp) : Prop := 0 < L.length → ∃ b o, A = some ⟨b, o, none⟩ ∧ b < w.heap.size ∧ ∀ i p, L[i]? = some p → w.cell? ⟨b, o + i * 4, none⟩ = some (.int .i64 p.id) ∧ w.cell? ⟨b, o + i * 4 + 1, none⟩ = some (.int .i64 p.n) ∧ w.cell? ⟨b, o + i * 4 + 2, none⟩ = some (.string p.s) ∧ w.cell? ⟨b, o + i * 4 + 3, none⟩ = some (.string p.t)
theorem PRow.below {w w' : World} {A : Option Addr} {L : List Pp} (h : PRow w A L) (hb : Below w.heap.size w w') : PRow w' A L := fun hp => by
  obtain ⟨b, o, e, h1, h2⟩ := h hp
  refine ⟨b, o, e, Nat.lt_of_lt_of_le h1 hb.size, fun i p hx => ?_⟩
  obtain ⟨c0, c1, c2, c3⟩ := h2 i p hx
  exact ⟨(hb.cell (p := ⟨b, o + i * 4, none⟩) h1).trans c0, (hb.cell (p := ⟨b, o + i * 4 + 1, none⟩) h1).trans c1, (hb.cell (p := ⟨b, o + i * 4 + 2, none⟩) h1).trans c2, (hb.cell (p := ⟨b, o + i * 4 + 3, none⟩) h1).trans c3⟩
theorem PRow.take {w : World} {A : Option Addr} {L : List Pp} {k : Nat} (h : PRow w A L) : PRow w A (L.take k) := fun hp => by
  obtain ⟨b, o, e, h1, h2⟩ := h (by rw [List.length_take] at hp; omega)
  exact ⟨b, o, e, h1, fun i x hx => h2 i x (by rw [List.getElem?_take] at hx; split at hx; exact hx; cases hx)⟩
theorem own_prow {w : World} {base m : Nat} {e : TypeId} {v : Value} {L : List Pp} (h : w.ownsRow base e 4 v m (flat L)) (hm : m = L.length) : ∃ A cap, v = .slice A m cap ∧ m ≤ cap ∧ PRow w A L := by
  subst hm
  rcases h.2 with ⟨rfl, h0⟩ | ⟨g, cap, cur, rfl, _, hh, hnc, _⟩
  · have : L.length = 0 := by have := flat_len L; rw [h0] at this; simp at this; omega
    exact ⟨none, 0, by rw [this], by omega, fun hp => absurd hp (by omega)⟩
  · refine ⟨_, cap, rfl, hnc, fun _ => ⟨g, 0, rfl, (h.lt g rfl).2, fun k p hx => ?_⟩⟩
    have hk := (List.getElem?_eq_some_iff.1 hx).1
    have hc : ∀ j u, (ppA p).toList[j]? = some u → w.cell? ⟨g, 0 + k * 4 + j, none⟩ = some u := fun j u hj => by
      have hj4 : j < 4 := (List.getElem?_eq_some_iff.1 hj).1
      rw [Nat.zero_add, h.cellAt (k * 4 + j) (by omega)]
      exact flat_at hx hj
    exact ⟨hc 0 _ rfl, hc 1 _ rfl, hc 2 _ rfl, hc 3 _ rfl⟩
end Go.Proofs.YtedapgeabpadaaaDoor

namespace Go.Proofs.YtedapgeabpadaaaDoor.Pl

/-- The kind of an identifier's values. -/
def kindOf (n : Int) : Int :=
  if n ∈ [1, 23, 25, 36, 37, 40, 41, 42] then 1 else if n ∈ [19, 33, 34, 35] then 2 else if n ∈ [2, 17, 24, 39] then 3 else if n = 11 then 4
  else if n ∈ [9, 22] then 5 else if n ∈ [3, 8, 18, 21, 26, 28, 31] then 6 else if n = 38 then 7 else 0
theorem kind0 {n : Int} (h : ¬ (n = 1 ∨ n = 23 ∨ n = 25 ∨ n = 36 ∨ n = 37 ∨ n = 40 ∨ n = 41 ∨ n = 42 ∨ n = 19 ∨ n = 33 ∨ n = 34 ∨ n = 35 ∨ n = 2 ∨ n = 17 ∨ n = 24 ∨ n = 39 ∨ n = 11 ∨ n = 9 ∨ n = 22 ∨ n = 3 ∨ n = 8 ∨ n = 18 ∨ n = 21 ∨ n = 26 ∨ n = 28 ∨ n = 31 ∨ n = 38)) : kindOf n = 0 := by
  simp only [not_or] at h
  unfold kindOf
  simp [h]
theorem kindE {n c k : Int} (h : (n == c) = true) (hk : kindOf c = k) : k = kindOf n := by rw [eq_of_beq h, hk]
theorem kindN {n : Int} (h1 : (n == 1) = false) (h23 : (n == 23) = false) (h25 : (n == 25) = false) (h36 : (n == 36) = false) (h37 : (n == 37) = false) (h40 : (n == 40) = false) (h41 : (n == 41) = false) (h42 : (n == 42) = false) (h19 : (n == 19) = false) (h33 : (n == 33) = false) (h34 : (n == 34) = false) (h35 : (n == 35) = false) (h2 : (n == 2) = false) (h17 : (n == 17) = false) (h24 : (n == 24) = false) (h39 : (n == 39) = false) (h11 : (n == 11) = false) (h9 : (n == 9) = false) (h22 : (n == 22) = false) (h3 : (n == 3) = false) (h8 : (n == 8) = false) (h18 : (n == 18) = false) (h21 : (n == 21) = false) (h26 : (n == 26) = false) (h28 : (n == 28) = false) (h31 : (n == 31) = false) (h38 : (n == 38) = false) : 0 = kindOf n := by
  simp only [beq_eq_false_iff_ne, ne_eq] at *
  exact (kind0 (by simp only [not_or]; exact ⟨h1, h23, h25, h36, h37, h40, h41, h42, h19, h33, h34, h35, h2, h17, h24, h39, h11, h9, h22, h3, h8, h18, h21, h26, h28, h31, h38⟩)).symm
/-- Is the number in the list? -/
def isIn (n : Int) (l : List Int) : Bool := decide (n ∈ l)
/-- The kind, as the document's answer goes about it. -/
theorem kindOf_in (n : Int) : kindOf n = if isIn n [1, 23, 25, 36, 37, 40, 41, 42] = true then 1 else if isIn n [19, 33, 34, 35] = true then 2 else if isIn n [2, 17, 24, 39] = true then 3 else if n = 11 then 4
    else if isIn n [9, 22] = true then 5 else if isIn n [3, 8, 18, 21, 26, 28, 31] = true then 6 else if n = 38 then 7 else 0 := by
  unfold isIn kindOf
  simp only [decide_eq_true_eq]
theorem kindW (n : Int) {a b c d f : Bool} (ha : isIn n [1, 23, 25, 36, 37, 40, 41, 42] = a) (hb : isIn n [19, 33, 34, 35] = b) (hc : isIn n [2, 17, 24, 39] = c) (hd : isIn n [9, 22] = d) (hf : isIn n [3, 8, 18, 21, 26, 28, 31] = f) :
    (a = true → 1 = kindOf n) ∧ (a = false → b = true → 2 = kindOf n) ∧ (a = false → b = false → c = true → 3 = kindOf n) ∧ (a = false → b = false → c = false → (n == 11) = true → 4 = kindOf n) ∧
    (a = false → b = false → c = false → (n == 11) = false → d = true → 5 = kindOf n) ∧ (a = false → b = false → c = false → (n == 11) = false → d = false → f = true → 6 = kindOf n) ∧
    (a = false → b = false → c = false → (n == 11) = false → d = false → f = false → (n == 38) = true → 7 = kindOf n) ∧ (a = false → b = false → c = false → (n == 11) = false → d = false → f = false → (n == 38) = false → 0 = kindOf n) := by
  rw [kindOf_in n, ha, hb, hc, hd, hf]
  refine ⟨?_, ?_, ?_, ?_, ?_, ?_, ?_, ?_⟩
  all_goals simp +contextual
theorem isIn_hit {n : Int} {l : List Int} {k : Nat} (h : k < l.length) (he : l.getD k 0 = n) : isIn n l = true := by
  unfold isIn
  rw [decide_eq_true_eq, ← he]
  simp [List.getD, List.getElem?_eq_getElem h]
theorem isIn_none {n : Int} {l : List Int} (h : ∀ j, j < l.length → l.getD j 0 ≠ n) : isIn n l = false := by
  unfold isIn
  rw [decide_eq_false_iff_not]
  intro hm
  obtain ⟨j, hj, he⟩ := List.getElem_of_mem hm
  exact h j hj (by simp [List.getD, List.getElem?_eq_getElem hj, he])
end Go.Proofs.YtedapgeabpadaaaDoor.Pl

namespace Go.Proofs.YtedapgeabpadaaaDoor.Pl
open Go.PlainAid (bt bt_nonneg bt_le get_bt bt_end)

/-- Is there a byte from lo up tu hi at a place? -/
def tl (s : ByteArray) (a : Nat) (lo hi : Int) : Bool := decide (a < s.size) && (decide (lo ≤ bt s a) && decide (bt s a ≤ hi))
/-- How many bytes the character at a place has; 0: there is none that may be. -/
def nx (s : ByteArray) (a : Nat) : Nat :=
  if 1 ≤ bt s a ∧ bt s a ≤ 127 then 1
  else if 194 ≤ bt s a ∧ bt s a ≤ 223 ∧ tl s (a + 1) 128 191 = true then 2
  else if 224 ≤ bt s a ∧ bt s a ≤ 239 ∧ tl s (a + 1) 128 191 = true ∧ tl s (a + 2) 128 191 = true then
    (if (bt s a = 224 ∧ tl s (a + 1) 160 191 = false) ∨ (bt s a = 237 ∧ tl s (a + 1) 128 159 = false) then 0 else 3)
  else if 240 ≤ bt s a ∧ bt s a ≤ 244 ∧ tl s (a + 1) 128 191 = true ∧ tl s (a + 2) 128 191 = true ∧ tl s (a + 3) 128 191 = true then
    (if (bt s a = 240 ∧ tl s (a + 1) 144 191 = false) ∨ (bt s a = 244 ∧ tl s (a + 1) 128 143 = false) then 0 else 4)
  else 0

theorem tl_iff {s : ByteArray} {a : Nat} {lo hi : Int} : tl s a lo hi = true ↔ a < s.size ∧ lo ≤ bt s a ∧ bt s a ≤ hi := by
  unfold tl
  simp only [Bool.and_eq_true, decide_eq_true_eq]
theorem tl_not {s : ByteArray} {a : Nat} {lo hi : Int} : tl s a lo hi = false ↔ ¬ (a < s.size ∧ lo ≤ bt s a ∧ bt s a ≤ hi) := by
  rw [← tl_iff]
  simp

theorem get!_bt (s : ByteArray) (k : Nat) : ((s.get! k).toNat : Int) = bt s k := by
  unfold bt
  by_cases h : k < s.size
  · rw [dif_pos h]
    congr 2
    show s.data[k]! = s[k]
    rw [getElem!_pos s.data k h]
    rfl
  · rw [dif_neg h]
    show ((s.data[k]!).toNat : Int) = 0
    rw [getElem!_neg s.data k h]
    rfl

/-- What the decoder gives, in numbers. -/
def dec4 (b0 b1 b2 b3 : Nat) (c1 c2 c3 : Bool) : Nat × Nat :=
  if b0 < 128 then (b0, 1)
  else if b0 / 32 == 6 && c1 then (if (b0 % 32) * 64 + b1 % 64 ≥ 128 then ((b0 % 32) * 64 + b1 % 64, 2) else (Utf8.runeError, 1))
  else if b0 / 16 == 14 && c1 && c2 then
    (if (b0 % 16) * 4096 + (b1 % 64) * 64 + b2 % 64 ≥ 2048 && Utf8.valid (((b0 % 16) * 4096 + (b1 % 64) * 64 + b2 % 64 : Nat) : Int) then ((b0 % 16) * 4096 + (b1 % 64) * 64 + b2 % 64, 3) else (Utf8.runeError, 1))
  else if b0 / 8 == 30 && c1 && c2 && c3 then
    (if (b0 % 8) * 262144 + (b1 % 64) * 4096 + (b2 % 64) * 64 + b3 % 64 ≥ 65536 && Utf8.valid (((b0 % 8) * 262144 + (b1 % 64) * 4096 + (b2 % 64) * 64 + b3 % 64 : Nat) : Int) then
      ((b0 % 8) * 262144 + (b1 % 64) * 4096 + (b2 % 64) * 64 + b3 % 64, 4) else (Utf8.runeError, 1))
  else (Utf8.runeError, 1)
theorem decode_dec4 (s : ByteArray) (a : Nat) : Utf8.decode s a = dec4 (s.get! a).toNat (s.get! (a + 1)).toNat (s.get! (a + 2)).toNat (s.get! (a + 3)).toNat
    (decide (a + 1 < s.size) && (s.get! (a + 1)).toNat / 64 == 2) (decide (a + 2 < s.size) && (s.get! (a + 2)).toNat / 64 == 2) (decide (a + 3 < s.size) && (s.get! (a + 3)).toNat / 64 == 2) := rfl
/-- The count, in numbers. -/
def nx4 (b0 b1 : Nat) (c1 c2 c3 : Bool) : Nat :=
  if 1 ≤ b0 ∧ b0 ≤ 127 then 1
  else if 194 ≤ b0 ∧ b0 ≤ 223 ∧ c1 = true then 2
  else if 224 ≤ b0 ∧ b0 ≤ 239 ∧ c1 = true ∧ c2 = true then (if (b0 = 224 ∧ b1 < 160) ∨ (b0 = 237 ∧ 159 < b1) then 0 else 3)
  else if 240 ≤ b0 ∧ b0 ≤ 244 ∧ c1 = true ∧ c2 = true ∧ c3 = true then (if (b0 = 240 ∧ b1 < 144) ∨ (b0 = 244 ∧ 143 < b1) then 0 else 4)
  else 0
theorem valid_iff (n : Nat) : Utf8.valid (n : Int) = true ↔ (n < 55296 ∨ (57344 ≤ n ∧ n ≤ 1114111)) := by
  unfold Utf8.valid
  simp only [Bool.or_eq_true, Bool.and_eq_true, decide_eq_true_eq]
  omega
/-- A pair of a rune and its width, as 'next' takes it. -/
def tk (p : Nat × Nat) : Nat := if p.1 = 0 ∨ (p.1 = 65533 ∧ p.2 < 2) then 0 else p.2
theorem tk_bad : tk (Utf8.runeError, 1) = 0 := by decide
theorem tk_ok {c n : Nat} (h0 : c ≠ 0) (hn : 2 ≤ n) : tk (c, n) = n := by
  unfold tk
  rw [if_neg]
  rintro (h | ⟨_, h⟩)
  · exact h0 h
  · exact absurd h (by simp; omega)
theorem tk_one {c : Nat} (h0 : c ≠ 0) (h1 : c < 128) : tk (c, 1) = 1 := by
  unfold tk
  rw [if_neg]
  rintro (h | ⟨h, _⟩)
  · exact h0 h
  · simp at h; omega
theorem nx4_dec4 (b0 b1 b2 b3 : Nat) (c1 c2 c3 : Bool) (h0 : b0 < 256) (h1 : c1 = true → b1 / 64 = 2) : nx4 b0 b1 c1 c2 c3 = tk (dec4 b0 b1 b2 b3 c1 c2 c3) := by
  unfold nx4 dec4
  by_cases hA : b0 < 128
  · rw [if_pos hA]
    by_cases hz : b0 = 0
    · subst hz; rfl
    · rw [if_pos (by omega), tk_one hz hA]
  · rw [if_neg hA, if_neg (by omega)]
    by_cases hC : b0 < 224
    · rw [if_neg (show ¬ (224 ≤ b0 ∧ b0 ≤ 239 ∧ c1 = true ∧ c2 = true) by omega), if_neg (show ¬ (240 ≤ b0 ∧ b0 ≤ 244 ∧ c1 = true ∧ c2 = true ∧ c3 = true) by omega)]
      by_cases hB : b0 < 192
      · have e1 : (b0 / 32 == 6) = false := by rw [beq_eq_false_iff_ne]; omega
        have e2 : (b0 / 16 == 14) = false := by rw [beq_eq_false_iff_ne]; omega
        have e3 : (b0 / 8 == 30) = false := by rw [beq_eq_false_iff_ne]; omega
        rw [if_neg (by omega)]
        simp only [e1, e2, e3, Bool.false_and, Bool.false_eq_true, if_false]
        exact tk_bad.symm
      · have e1 : (b0 / 32 == 6) = true := by rw [beq_iff_eq]; omega
        have e2 : (b0 / 16 == 14) = false := by rw [beq_eq_false_iff_ne]; omega
        have e3 : (b0 / 8 == 30) = false := by rw [beq_eq_false_iff_ne]; omega
        simp only [e1, e2, e3, Bool.false_and, Bool.true_and, Bool.false_eq_true, if_false]
        cases c1
        · rw [if_neg (by simp), if_neg (by simp)]
          exact tk_bad.symm
        · rw [if_pos rfl]
          have h1' := h1 rfl
          by_cases hE : 194 ≤ b0
          · rw [if_pos ⟨hE, by omega, rfl⟩, if_pos (by omega), tk_ok (by omega) (by omega)]
          · rw [if_neg (by omega), if_neg (by omega), tk_bad]
    · rw [if_neg (show ¬ (194 ≤ b0 ∧ b0 ≤ 223 ∧ c1 = true) by omega)]
      have e1 : (b0 / 32 == 6) = false := by rw [beq_eq_false_iff_ne]; omega
      simp only [e1, Bool.false_and, Bool.false_eq_true, if_false]
      by_cases hD : b0 < 240
      · have e2 : (b0 / 16 == 14) = true := by rw [beq_iff_eq]; omega
        have e3 : (b0 / 8 == 30) = false := by rw [beq_eq_false_iff_ne]; omega
        simp only [e2, e3, Bool.false_and, Bool.true_and, Bool.false_eq_true, if_false]
        cases c1
        · simp only [Bool.false_and, Bool.false_eq_true, if_false, false_and, and_false]
          exact tk_bad.symm
        · cases c2
          · simp only [Bool.and_false, Bool.false_eq_true, if_false, false_and, and_false]
            exact tk_bad.symm
          · have h1' := h1 rfl
            simp only [Bool.and_self, if_true, and_self, and_true, Bool.and_eq_true, decide_eq_true_eq, valid_iff, ge_iff_le]
            rw [if_pos (by omega)]
            by_cases hF : (b0 = 224 ∧ b1 < 160) ∨ (b0 = 237 ∧ 159 < b1)
            · rw [if_pos hF, if_neg (by omega), tk_bad]
            · rw [if_neg hF, if_pos (by omega), tk_ok (by omega) (by omega)]
      · have e2 : (b0 / 16 == 14) = false := by rw [beq_eq_false_iff_ne]; omega
        rw [if_neg (show ¬ (224 ≤ b0 ∧ b0 ≤ 239 ∧ c1 = true ∧ c2 = true) by omega)]
        simp only [e2, Bool.false_and, Bool.false_eq_true, if_false]
        by_cases hG : b0 < 248
        · have e3 : (b0 / 8 == 30) = true := by rw [beq_iff_eq]; omega
          simp only [e3, Bool.true_and]
          cases c1
          · simp only [Bool.false_and, Bool.false_eq_true, if_false, false_and, and_false]
            exact tk_bad.symm
          · cases c2
            · simp only [Bool.and_false, Bool.false_and, Bool.false_eq_true, if_false, false_and, and_false]
              exact tk_bad.symm
            · cases c3
              · simp only [Bool.and_false, Bool.false_eq_true, if_false, and_false]
                exact tk_bad.symm
              · have h1' := h1 rfl
                simp only [Bool.and_self, if_true, and_self, and_true, Bool.and_eq_true, decide_eq_true_eq, valid_iff, ge_iff_le]
                by_cases hH : b0 ≤ 244
                · rw [if_pos (by omega)]
                  by_cases hF : (b0 = 240 ∧ b1 < 144) ∨ (b0 = 244 ∧ 143 < b1)
                  · rw [if_pos hF, if_neg (by omega), tk_bad]
                  · rw [if_neg hF, if_pos (by omega), tk_ok (by omega) (by omega)]
                · rw [if_neg (by omega), if_neg (by omega), tk_bad]
        · have e3 : (b0 / 8 == 30) = false := by rw [beq_eq_false_iff_ne]; omega
          rw [if_neg (by omega)]
          simp only [e3, Bool.false_and, Bool.false_eq_true, if_false]
          exact tk_bad.symm
theorem tl_get (s : ByteArray) (k : Nat) : tl s k 128 191 = (decide (k < s.size) && (s.get! k).toNat / 64 == 2) := by
  have h := get!_bt s k
  rw [Bool.eq_iff_iff, tl_iff]
  simp only [Bool.and_eq_true, decide_eq_true_eq, beq_iff_eq]
  omega
theorem nx_nx4 (s : ByteArray) (a : Nat) : nx s a = nx4 (s.get! a).toNat (s.get! (a + 1)).toNat (tl s (a + 1) 128 191) (tl s (a + 2) 128 191) (tl s (a + 3) 128 191) := by
  have h0 := get!_bt s a
  have h1 := get!_bt s (a + 1)
  unfold nx nx4
  rw [← h0]
  generalize (s.get! a).toNat = b0 at *
  have eq1 : (1 ≤ (b0 : Int) ∧ (b0 : Int) ≤ 127) = (1 ≤ b0 ∧ b0 ≤ 127) := by rw [eq_iff_iff]; omega
  simp only [eq1]
  by_cases hc1 : tl s (a + 1) 128 191 = true
  · have hs := (tl_iff.1 hc1).1
    have hr1 : 128 ≤ bt s (a + 1) := (tl_iff.1 hc1).2.1
    have hr2 : bt s (a + 1) ≤ 191 := (tl_iff.1 hc1).2.2
    rw [hc1]
    have t1 : (tl s (a + 1) 160 191 = false) = ((s.get! (a + 1)).toNat < 160) := by rw [eq_iff_iff, tl_not]; omega
    have t2 : (tl s (a + 1) 128 159 = false) = (159 < (s.get! (a + 1)).toNat) := by rw [eq_iff_iff, tl_not]; omega
    have t3 : (tl s (a + 1) 144 191 = false) = ((s.get! (a + 1)).toNat < 144) := by rw [eq_iff_iff, tl_not]; omega
    have t4 : (tl s (a + 1) 128 143 = false) = (143 < (s.get! (a + 1)).toNat) := by rw [eq_iff_iff, tl_not]; omega
    have k1 : (194 ≤ (b0 : Int)) = (194 ≤ b0) := by rw [eq_iff_iff]; omega
    have k0 : ((b0 : Int) ≤ 223) = (b0 ≤ 223) := by rw [eq_iff_iff]; omega
    have k2 : (224 ≤ (b0 : Int)) = (224 ≤ b0) := by rw [eq_iff_iff]; omega
    have k3 : ((b0 : Int) ≤ 239) = (b0 ≤ 239) := by rw [eq_iff_iff]; omega
    have k4 : (240 ≤ (b0 : Int)) = (240 ≤ b0) := by rw [eq_iff_iff]; omega
    have k5 : ((b0 : Int) ≤ 244) = (b0 ≤ 244) := by rw [eq_iff_iff]; omega
    have k6 : ((b0 : Int) = 224) = (b0 = 224) := by rw [eq_iff_iff]; omega
    have k7 : ((b0 : Int) = 237) = (b0 = 237) := by rw [eq_iff_iff]; omega
    have k8 : ((b0 : Int) = 240) = (b0 = 240) := by rw [eq_iff_iff]; omega
    have k9 : ((b0 : Int) = 244) = (b0 = 244) := by rw [eq_iff_iff]; omega
    simp only [t1, t2, t3, t4, k0, k1, k2, k3, k4, k5, k6, k7, k8, k9, true_and]
  · have hc1' : tl s (a + 1) 128 191 = false := by simpa using hc1
    rw [hc1']
    simp
/-- Go's decoder and the count: the rune r and its width n. -/
theorem nx_decode (s : ByteArray) (a : Nat) : nx s a = if (Utf8.decode s a).1 = 0 ∨ ((Utf8.decode s a).1 = 65533 ∧ (Utf8.decode s a).2 < 2) then 0 else (Utf8.decode s a).2 := by
  show nx s a = tk (Utf8.decode s a)
  rw [nx_nx4, decode_dec4, ← tl_get, ← tl_get, ← tl_get]
  refine nx4_dec4 _ _ _ _ _ _ _ ?_ ?_
  · exact (s.get! a).toNat_lt
  · intro h
    have := get!_bt s (a + 1)
    have := tl_iff.1 h
    omega

theorem nx_le (s : ByteArray) (a : Nat) (h : nx s a ≠ 0) : a + nx s a ≤ s.size := by
  have h0 : ¬ bt s a = 0 → a < s.size := fun h1 => by
    by_cases h2 : a < s.size
    · exact h2
    · exact absurd (bt_end s (by omega)) h1
  have t1 : tl s (a + 1) 128 191 = true → a + 1 < s.size := fun h => (tl_iff.1 h).1
  have t2 : tl s (a + 2) 128 191 = true → a + 2 < s.size := fun h => (tl_iff.1 h).1
  have t3 : tl s (a + 3) 128 191 = true → a + 3 < s.size := fun h => (tl_iff.1 h).1
  unfold nx at h ⊢
  split
  · have := h0 (by omega); omega
  · rename_i g1
    rw [if_neg g1] at h
    split
    · rename_i g2; have := t1 g2.2.2; omega
    · rename_i g2
      rw [if_neg g2] at h
      split
      · rename_i g3
        have := t2 g3.2.2.2
        split <;> omega
      · rename_i g3
        rw [if_neg g3] at h
        split
        · rename_i g4
          have := t3 g4.2.2.2.2
          split <;> omega
        · rename_i g4
          rw [if_neg g4] at h
          exact absurd rfl h
/-- The first byte at which a text is none (and whether there is one), from a place on. -/
def flt (s : ByteArray) : Nat → Nat → Int × Bool
  | 0, _ => (0, false)
  | f + 1, a => if s.size ≤ a then (0, false) else if nx s a = 0 then ((a : Int), true) else flt s f (a + nx s a)
theorem flt_end {s : ByteArray} {f a : Nat} (h : s.size ≤ a) : flt s f a = (0, false) := by
  cases f with
  | zero => rfl
  | succ f => unfold flt; rw [if_pos h]
theorem flt_bad {s : ByteArray} {f a : Nat} (h : a < s.size) (hf : s.size ≤ a + f) (hn : nx s a = 0) : flt s f a = ((a : Int), true) := by
  obtain ⟨g, rfl⟩ : ∃ g, f = g + 1 := ⟨f - 1, by omega⟩
  unfold flt
  rw [if_neg (by omega), if_pos hn]
theorem flt_step {s : ByteArray} {f a : Nat} (h : a < s.size) (hf : s.size ≤ a + f) (hn : nx s a ≠ 0) : flt s f a = flt s (f - 1) (a + nx s a) := by
  obtain ⟨g, rfl⟩ : ∃ g, f = g + 1 := ⟨f - 1, by omega⟩
  conv => lhs; unfold flt
  rw [if_neg (by omega), if_neg hn]
  rfl
end Go.Proofs.YtedapgeabpadaaaDoor.Pl

namespace Go.Proofs.YtedapgeabpadaaaDoor
open Go.RowKit Pl Go.Shelf Go.Lib
/-- The two tables lie there. -/
def Tabs (w : World) : Prop := Lib.Utf8Tabs 0 1 w
theorem Tabs.below {w w' : World} (h : Tabs w) (hb : Below w.heap.size w w') : Tabs w' := Utf8Tabs_below h hb
theorem accept_eq : (Rows.laid_unicode_utf8_acceptRanges : DataW Unit) = Lib.acceptData := by kernel_rfl
theorem first_eq : Rows.laid_unicode_utf8_first = Lib.firstData := Pinned.utf8First_eq
theorem tabs_of {w : World} (h3 : Lib.VarReads Tryd.prog w "unicode/utf8.first" Rows.laid_unicode_utf8_first) (h4 : Lib.VarReads Tryd.prog w "unicode/utf8.acceptRanges" Rows.laid_unicode_utf8_acceptRanges) :
    Lib.Utf8Tabs 0 1 w := by
  rw [first_eq] at h3
  rw [accept_eq] at h4
  exact utf8Tabs_of_readsT (U8Types.of260 Tryd.lays260) ⟨by kernel_rfl, by kernel_rfl, by kernel_rfl, by kernel_rfl, by kernel_rfl, by kernel_rfl, by kernel_rfl⟩ h3 h4
end Go.Proofs.YtedapgeabpadaaaDoor

namespace Go.Proofs.YtedapgeabpadaaaDoor
open Go.RowKit Pl Go.Shelf
open Go.PlainAid (bt bt_nonneg bt_le get_bt bt_end)

theorem decode_tail (s : ByteArray) (a : Nat) (h : a < s.size) : Lib.decodeGo (s.extract a s.size) = Utf8.decode s a := decodeGo_tail s a h

theorem next_any (s : ByteArray) (a : Nat) (ha : a < s.size) (w : World) (hT : Tabs w) :
    Calls Tryd.prog 115 #[.string (s.extract a s.size)] w fun e w' => e = .returned (.int .i64 (nx s a)) ∧ Below w.heap.size w w' := by
  obtain ⟨r, n, hd⟩ : ∃ r n, Utf8.decode s a = (r, n) := ⟨_, _, rfl⟩
  have hn := nx_decode s a
  rw [hd] at hn
  have Hn := Lib.hid hn
  have Hd := Lib.hid ((decode_tail s a ha).trans hd)
  clear hn hd
  by_cases h0 : r = 0
  · subst h0
    have hv := Lib.hid (Hn.out.trans (if_pos (.inl rfl)))
    go_enter Tryd.func115, Tryd.ntmps115
    go_wp2_with fail
    refine (Tryd.utf8_DecodeRuneInString _ _ hT).mono ?_
    rintro e w1 ⟨rfl, b1⟩
    rw [Hd.out]
    go_wp2
    go_ret
    exact ⟨ret_int (by rw [hv.out]; rfl), b1⟩
  · have h0' : ((r : Int) == 0) = false := by rw [beq_eq_false_iff_ne]; omega
    by_cases h1 : r = 65533
    · subst h1
      by_cases h2 : n < 2
      · have hv := Lib.hid (Hn.out.trans (if_pos (.inr ⟨rfl, h2⟩)))
        go_enter Tryd.func115, Tryd.ntmps115
        go_wp2_with fail
        refine (Tryd.utf8_DecodeRuneInString _ _ hT).mono ?_
        rintro e w1 ⟨rfl, b1⟩
        rw [Hd.out]
        go_wp2
        go_ret
        exact ⟨ret_int (by rw [hv.out]; rfl), b1⟩
      · have hv := Lib.hid (Hn.out.trans (if_neg (by rintro (h | ⟨_, h⟩); exact h0 h; exact h2 h)))
        go_enter Tryd.func115, Tryd.ntmps115
        go_wp2_with fail
        refine (Tryd.utf8_DecodeRuneInString _ _ hT).mono ?_
        rintro e w1 ⟨rfl, b1⟩
        rw [Hd.out]
        go_wp2
        go_ret
        exact ⟨ret_int (by rw [hv.out]), b1⟩
    · have h1' : ((r : Int) == 65533) = false := by rw [beq_eq_false_iff_ne]; omega
      have hv := Lib.hid (Hn.out.trans (if_neg (by rintro (h | ⟨h, _⟩); exact h0 h; exact h1 h)))
      go_enter Tryd.func115, Tryd.ntmps115
      go_wp2_with fail
      refine (Tryd.utf8_DecodeRuneInString _ _ hT).mono ?_
      rintro e w1 ⟨rfl, b1⟩
      rw [Hd.out]
      go_wp2
      go_ret
      exact ⟨ret_int (by rw [hv.out]), b1⟩

theorem fault_any (s : ByteArray) (w : World) (hs : s.size ≤ 281474976710656) (hT : Tabs w) :
    Calls Tryd.prog 101 #[.string s] w fun e w' => e = .returned (.tuple #[.int .i64 (flt s s.size 0).1, .bool (flt s s.size 0).2]) ∧ Below w.heap.size w w' := by
  have HT := Lib.hid hT
  clear hT
  go_enter Tryd.func101, Tryd.ntmps101
  go_wp2
  go_loopw [4] (fun i wr => ∃ a f : Nat, i = .int .i64 a ∧ a ≤ s.size ∧ s.size ≤ a + f ∧ Hid (flt s s.size 0 = flt s f a) ∧ Below w.heap.size w wr) (fun i _ => s.size - (intOf i).toNat)
  case atStart => exact ⟨0, s.size, rfl, by omega, by omega, rfl, Below.refl _ _⟩
  case round =>
    obtain ⟨a, f, rfl, ha, hf, hv, hbel⟩ := hrel
    have hTr : Hid (Tabs wr) := Lib.hid (HT.out.below hbel)
    by_cases hlt : a < s.size
    · obtain ⟨n, hn⟩ : ∃ n, nx s a = n := ⟨_, rfl⟩
      have Hn := Lib.hid hn
      clear hn
      by_cases h0 : n = 0
      · have hr := Lib.hid (hv.out.trans (flt_bad hlt hf (Hn.out.trans h0)))
        subst h0
        go_wp2_with fail
        refine (next_any s a hlt _ hTr.out).mono ?_
        rintro e w1 ⟨rfl, b1⟩
        rw [Hn.out]
        go_wp2
        go_ret2
        exact ⟨ret2 (val_int (by rw [hr.out])) (val_bool (by rw [hr.out])), hbel.trans (b1.mono hbel.size)⟩
      · have hne : ((n : Int) == 0) = false := by rw [beq_eq_false_iff_ne]; omega
        have hle : a + n ≤ s.size := by have := nx_le s a (by rw [Hn.out]; exact h0); rw [Hn.out] at this; exact this
        have hr := Lib.hid (hv.out.trans (flt_step hlt hf (by rw [Hn.out]; exact h0)))
        go_wp2_with fail
        refine (next_any s a hlt _ hTr.out).mono ?_
        rintro e w1 ⟨rfl, b1⟩
        rw [Hn.out]
        go_wp2
        go_roundw
        case rel => exact ⟨a + n, f - 1, by go_num, hle, by omega, by rw [hr.out, Hn.out]; exact Lib.hid rfl, hbel.trans (b1.mono hbel.size)⟩
        case measure => simp [intOf]; omega
    · have hr := Lib.hid (hv.out.trans (flt_end (by omega)))
      go_wp2
      go_ret2
      exact ⟨ret2 (val_int (by rw [hr.out])) (val_bool (by rw [hr.out])), hbel⟩

end Go.Proofs.YtedapgeabpadaaaDoor

namespace Go.Proofs.YtedapgeabpadaaaDoor
open Go.RowKit Pl Go.Shelf
open Go.PlainAid (bt bt_nonneg bt_le get_bt bt_end)

theorem tail_any (s : ByteArray) (a : Nat) (lo hi : Int) (w : World) :
    Calls Tryd.prog 123 #[.string s, .int .i64 a, .int .i64 lo, .int .i64 hi] w fun e w' => e = .returned (.bool (tl s a lo hi)) ∧ w = w' := by
  have hbt := get_bt s
  have hb0 := bt_nonneg s a
  have hb1 := bt_le s a
  by_cases h : a < s.size
  · by_cases h2 : lo ≤ bt s a
    · by_cases h3 : bt s a ≤ hi
      · have ht := Lib.hid (tl_iff.2 ⟨h, h2, h3⟩)
        go_enter Tryd.func123, Tryd.ntmps123
        go_wp2
        go_ret
        exact ⟨ret_bool ht.out.symm, rfl⟩
      · have ht := Lib.hid (tl_not.2 (fun hc : a < s.size ∧ lo ≤ bt s a ∧ bt s a ≤ hi => h3 hc.2.2))
        go_enter Tryd.func123, Tryd.ntmps123
        go_wp2
        go_ret
        exact ⟨ret_bool ht.out.symm, rfl⟩
    · have ht := Lib.hid (tl_not.2 (fun hc : a < s.size ∧ lo ≤ bt s a ∧ bt s a ≤ hi => h2 hc.2.1))
      go_enter Tryd.func123, Tryd.ntmps123
      go_wp2
      go_ret
      exact ⟨ret_bool ht.out.symm, rfl⟩
  · have ht := Lib.hid (tl_not.2 (fun hc : a < s.size ∧ lo ≤ bt s a ∧ bt s a ≤ hi => h hc.1))
    go_enter Tryd.func123, Tryd.ntmps123
    go_wp2
    go_ret
    exact ⟨ret_bool ht.out.symm, rfl⟩
end Go.Proofs.YtedapgeabpadaaaDoor

namespace Go.Proofs.YtedapgeabpadaaaDoor
open Go.RowKit Pl Go.Shelf
set_option linter.unusedVariables false
open Go.PlainAid (bt bt_nonneg bt_le get_bt bt_end)

theorem tail_at (s : ByteArray) (x : Int) (k : Nat) (hx : x = k) (lo hi : Int) (w : World) :
    Calls Tryd.prog 123 #[.string s, .int .i64 x, .int .i64 lo, .int .i64 hi] w fun e w' => e = .returned (.bool (tl s k lo hi)) ∧ w = w' := by
  subst hx
  exact tail_any s k lo hi w

theorem char_1 (s : ByteArray) (a : Nat) (ha : a < s.size) (w : World) (hs : s.size ≤ 281474976710656) (h1 : 1 ≤ bt s a) (h2 : bt s a ≤ 127) :
    Calls Tryd.prog 119 #[.string s, .int .i64 a] w fun e w' => e = .returned (.int .i64 (1)) ∧ w = w' := by
  have hbt := get_bt s
  have hb0 := bt_nonneg s a
  have hb1 := bt_le s a
  go_enter Tryd.func119, Tryd.ntmps119
  go_wp2_with fail
  go_wp2
  all_goals go_ret
  all_goals exact ⟨rfl, rfl⟩

theorem char_0a (s : ByteArray) (a : Nat) (ha : a < s.size) (w : World) (hs : s.size ≤ 281474976710656) (h1 : bt s a = 0) :
    Calls Tryd.prog 119 #[.string s, .int .i64 a] w fun e w' => e = .returned (.int .i64 (0)) ∧ w = w' := by
  have hbt := get_bt s
  have hb0 := bt_nonneg s a
  have hb1 := bt_le s a
  go_enter Tryd.func119, Tryd.ntmps119
  go_wp2_with fail
  refine (tail_at s _ (a + 1) (by omega) 128 191 _).mono ?_
  rintro e w' ⟨rfl, rfl⟩
  go_wp2_with fail
  refine (tail_at s _ (a + 2) (by omega) 128 191 _).mono ?_
  rintro e w' ⟨rfl, rfl⟩
  go_wp2_with fail
  refine (tail_at s _ (a + 3) (by omega) 128 191 _).mono ?_
  rintro e w' ⟨rfl, rfl⟩
  go_wp2_with fail
  go_wp2
  all_goals go_ret
  all_goals exact ⟨rfl, rfl⟩

theorem char_0b (s : ByteArray) (a : Nat) (ha : a < s.size) (w : World) (hs : s.size ≤ 281474976710656) (h1 : 128 ≤ bt s a) (h2 : bt s a ≤ 193) :
    Calls Tryd.prog 119 #[.string s, .int .i64 a] w fun e w' => e = .returned (.int .i64 (0)) ∧ w = w' := by
  have hbt := get_bt s
  have hb0 := bt_nonneg s a
  have hb1 := bt_le s a
  go_enter Tryd.func119, Tryd.ntmps119
  go_wp2_with fail
  refine (tail_at s _ (a + 1) (by omega) 128 191 _).mono ?_
  rintro e w' ⟨rfl, rfl⟩
  go_wp2_with fail
  refine (tail_at s _ (a + 2) (by omega) 128 191 _).mono ?_
  rintro e w' ⟨rfl, rfl⟩
  go_wp2_with fail
  refine (tail_at s _ (a + 3) (by omega) 128 191 _).mono ?_
  rintro e w' ⟨rfl, rfl⟩
  go_wp2_with fail
  go_wp2
  all_goals go_ret
  all_goals exact ⟨rfl, rfl⟩

theorem char_0c (s : ByteArray) (a : Nat) (ha : a < s.size) (w : World) (hs : s.size ≤ 281474976710656) (h1 : 245 ≤ bt s a) :
    Calls Tryd.prog 119 #[.string s, .int .i64 a] w fun e w' => e = .returned (.int .i64 (0)) ∧ w = w' := by
  have hbt := get_bt s
  have hb0 := bt_nonneg s a
  have hb1 := bt_le s a
  go_enter Tryd.func119, Tryd.ntmps119
  go_wp2_with fail
  refine (tail_at s _ (a + 1) (by omega) 128 191 _).mono ?_
  rintro e w' ⟨rfl, rfl⟩
  go_wp2_with fail
  refine (tail_at s _ (a + 2) (by omega) 128 191 _).mono ?_
  rintro e w' ⟨rfl, rfl⟩
  go_wp2_with fail
  refine (tail_at s _ (a + 3) (by omega) 128 191 _).mono ?_
  rintro e w' ⟨rfl, rfl⟩
  go_wp2_with fail
  go_wp2
  all_goals go_ret
  all_goals exact ⟨rfl, rfl⟩

theorem char_2 (s : ByteArray) (a : Nat) (ha : a < s.size) (w : World) (hs : s.size ≤ 281474976710656) (h1 : 194 ≤ bt s a) (h2 : bt s a ≤ 223) (t1 : tl s (a + 1) 128 191 = true) :
    Calls Tryd.prog 119 #[.string s, .int .i64 a] w fun e w' => e = .returned (.int .i64 (2)) ∧ w = w' := by
  have hbt := get_bt s
  have hb0 := bt_nonneg s a
  have hb1 := bt_le s a
  go_enter Tryd.func119, Tryd.ntmps119
  go_wp2_with fail
  refine (tail_at s _ (a + 1) (by omega) 128 191 _).mono ?_
  rintro e w' ⟨rfl, rfl⟩
  rw [t1]
  go_wp2_with fail
  refine (tail_at s _ (a + 2) (by omega) 128 191 _).mono ?_
  rintro e w' ⟨rfl, rfl⟩
  go_wp2_with fail
  refine (tail_at s _ (a + 3) (by omega) 128 191 _).mono ?_
  rintro e w' ⟨rfl, rfl⟩
  go_wp2_with fail
  go_wp2
  all_goals go_ret
  all_goals exact ⟨rfl, rfl⟩

theorem char_2n (s : ByteArray) (a : Nat) (ha : a < s.size) (w : World) (hs : s.size ≤ 281474976710656) (h1 : 194 ≤ bt s a) (h2 : bt s a ≤ 223) (t1 : tl s (a + 1) 128 191 = false) :
    Calls Tryd.prog 119 #[.string s, .int .i64 a] w fun e w' => e = .returned (.int .i64 (0)) ∧ w = w' := by
  have hbt := get_bt s
  have hb0 := bt_nonneg s a
  have hb1 := bt_le s a
  go_enter Tryd.func119, Tryd.ntmps119
  go_wp2_with fail
  refine (tail_at s _ (a + 1) (by omega) 128 191 _).mono ?_
  rintro e w' ⟨rfl, rfl⟩
  rw [t1]
  go_wp2_with fail
  refine (tail_at s _ (a + 2) (by omega) 128 191 _).mono ?_
  rintro e w' ⟨rfl, rfl⟩
  go_wp2_with fail
  refine (tail_at s _ (a + 3) (by omega) 128 191 _).mono ?_
  rintro e w' ⟨rfl, rfl⟩
  go_wp2_with fail
  go_wp2
  all_goals go_ret
  all_goals exact ⟨rfl, rfl⟩

theorem char_3n1 (s : ByteArray) (a : Nat) (ha : a < s.size) (w : World) (hs : s.size ≤ 281474976710656) (h1 : 224 ≤ bt s a) (h2 : bt s a ≤ 239) (t1 : tl s (a + 1) 128 191 = false) :
    Calls Tryd.prog 119 #[.string s, .int .i64 a] w fun e w' => e = .returned (.int .i64 (0)) ∧ w = w' := by
  have hbt := get_bt s
  have hb0 := bt_nonneg s a
  have hb1 := bt_le s a
  go_enter Tryd.func119, Tryd.ntmps119
  go_wp2_with fail
  refine (tail_at s _ (a + 1) (by omega) 128 191 _).mono ?_
  rintro e w' ⟨rfl, rfl⟩
  rw [t1]
  go_wp2_with fail
  refine (tail_at s _ (a + 2) (by omega) 128 191 _).mono ?_
  rintro e w' ⟨rfl, rfl⟩
  go_wp2_with fail
  refine (tail_at s _ (a + 3) (by omega) 128 191 _).mono ?_
  rintro e w' ⟨rfl, rfl⟩
  go_wp2_with fail
  go_wp2
  all_goals go_ret
  all_goals exact ⟨rfl, rfl⟩

theorem char_3n2 (s : ByteArray) (a : Nat) (ha : a < s.size) (w : World) (hs : s.size ≤ 281474976710656) (h1 : 224 ≤ bt s a) (h2 : bt s a ≤ 239) (t1 : tl s (a + 1) 128 191 = true) (t2 : tl s (a + 2) 128 191 = false) :
    Calls Tryd.prog 119 #[.string s, .int .i64 a] w fun e w' => e = .returned (.int .i64 (0)) ∧ w = w' := by
  have hbt := get_bt s
  have hb0 := bt_nonneg s a
  have hb1 := bt_le s a
  go_enter Tryd.func119, Tryd.ntmps119
  go_wp2_with fail
  refine (tail_at s _ (a + 1) (by omega) 128 191 _).mono ?_
  rintro e w' ⟨rfl, rfl⟩
  rw [t1]
  go_wp2_with fail
  refine (tail_at s _ (a + 2) (by omega) 128 191 _).mono ?_
  rintro e w' ⟨rfl, rfl⟩
  rw [t2]
  go_wp2_with fail
  refine (tail_at s _ (a + 3) (by omega) 128 191 _).mono ?_
  rintro e w' ⟨rfl, rfl⟩
  go_wp2_with fail
  go_wp2
  all_goals go_ret
  all_goals exact ⟨rfl, rfl⟩

theorem char_3 (s : ByteArray) (a : Nat) (ha : a < s.size) (w : World) (hs : s.size ≤ 281474976710656) (h1 : 224 ≤ bt s a) (h2 : bt s a ≤ 239) (t1 : tl s (a + 1) 128 191 = true) (t2 : tl s (a + 2) 128 191 = true) (h3 : (bt s a == 224) = false) (h4 : (bt s a == 237) = false) :
    Calls Tryd.prog 119 #[.string s, .int .i64 a] w fun e w' => e = .returned (.int .i64 (3)) ∧ w = w' := by
  have hbt := get_bt s
  have hb0 := bt_nonneg s a
  have hb1 := bt_le s a
  go_enter Tryd.func119, Tryd.ntmps119
  go_wp2_with fail
  refine (tail_at s _ (a + 1) (by omega) 128 191 _).mono ?_
  rintro e w' ⟨rfl, rfl⟩
  rw [t1]
  go_wp2_with fail
  refine (tail_at s _ (a + 2) (by omega) 128 191 _).mono ?_
  rintro e w' ⟨rfl, rfl⟩
  rw [t2]
  go_wp2_with fail
  refine (tail_at s _ (a + 3) (by omega) 128 191 _).mono ?_
  rintro e w' ⟨rfl, rfl⟩
  go_wp2_with fail
  refine (tail_at s _ (a + 1) (by omega) 160 191 _).mono ?_
  rintro e w' ⟨rfl, rfl⟩
  go_wp2_with fail
  refine (tail_at s _ (a + 1) (by omega) 128 159 _).mono ?_
  rintro e w' ⟨rfl, rfl⟩
  go_wp2_with fail
  go_wp2
  all_goals go_ret
  all_goals exact ⟨rfl, rfl⟩

theorem char_3_224_true (s : ByteArray) (a : Nat) (ha : a < s.size) (w : World) (hs : s.size ≤ 281474976710656) (h1 : 224 ≤ bt s a) (h2 : bt s a ≤ 239) (t1 : tl s (a + 1) 128 191 = true) (t2 : tl s (a + 2) 128 191 = true) (h3 : bt s a = 224) (t4 : tl s (a + 1) 160 191 = true) :
    Calls Tryd.prog 119 #[.string s, .int .i64 a] w fun e w' => e = .returned (.int .i64 (3)) ∧ w = w' := by
  have hbt := get_bt s
  have hb0 := bt_nonneg s a
  have hb1 := bt_le s a
  go_enter Tryd.func119, Tryd.ntmps119
  go_wp2_with fail
  refine (tail_at s _ (a + 1) (by omega) 128 191 _).mono ?_
  rintro e w' ⟨rfl, rfl⟩
  rw [t1]
  go_wp2_with fail
  refine (tail_at s _ (a + 2) (by omega) 128 191 _).mono ?_
  rintro e w' ⟨rfl, rfl⟩
  rw [t2]
  go_wp2_with fail
  refine (tail_at s _ (a + 3) (by omega) 128 191 _).mono ?_
  rintro e w' ⟨rfl, rfl⟩
  go_wp2_with fail
  refine (tail_at s _ (a + 1) (by omega) 160 191 _).mono ?_
  rintro e w' ⟨rfl, rfl⟩
  rw [t4]
  go_wp2_with fail
  refine (tail_at s _ (a + 1) (by omega) 128 159 _).mono ?_
  rintro e w' ⟨rfl, rfl⟩
  go_wp2_with fail
  go_wp2
  all_goals go_ret
  all_goals exact ⟨rfl, rfl⟩

theorem char_3_224_false (s : ByteArray) (a : Nat) (ha : a < s.size) (w : World) (hs : s.size ≤ 281474976710656) (h1 : 224 ≤ bt s a) (h2 : bt s a ≤ 239) (t1 : tl s (a + 1) 128 191 = true) (t2 : tl s (a + 2) 128 191 = true) (h3 : bt s a = 224) (t4 : tl s (a + 1) 160 191 = false) :
    Calls Tryd.prog 119 #[.string s, .int .i64 a] w fun e w' => e = .returned (.int .i64 (0)) ∧ w = w' := by
  have hbt := get_bt s
  have hb0 := bt_nonneg s a
  have hb1 := bt_le s a
  go_enter Tryd.func119, Tryd.ntmps119
  go_wp2_with fail
  refine (tail_at s _ (a + 1) (by omega) 128 191 _).mono ?_
  rintro e w' ⟨rfl, rfl⟩
  rw [t1]
  go_wp2_with fail
  refine (tail_at s _ (a + 2) (by omega) 128 191 _).mono ?_
  rintro e w' ⟨rfl, rfl⟩
  rw [t2]
  go_wp2_with fail
  refine (tail_at s _ (a + 3) (by omega) 128 191 _).mono ?_
  rintro e w' ⟨rfl, rfl⟩
  go_wp2_with fail
  refine (tail_at s _ (a + 1) (by omega) 160 191 _).mono ?_
  rintro e w' ⟨rfl, rfl⟩
  rw [t4]
  go_wp2_with fail
  refine (tail_at s _ (a + 1) (by omega) 128 159 _).mono ?_
  rintro e w' ⟨rfl, rfl⟩
  go_wp2_with fail
  go_wp2
  all_goals go_ret
  all_goals exact ⟨rfl, rfl⟩

theorem char_3_237_true (s : ByteArray) (a : Nat) (ha : a < s.size) (w : World) (hs : s.size ≤ 281474976710656) (h1 : 224 ≤ bt s a) (h2 : bt s a ≤ 239) (t1 : tl s (a + 1) 128 191 = true) (t2 : tl s (a + 2) 128 191 = true) (h3 : bt s a = 237) (t4 : tl s (a + 1) 128 159 = true) :
    Calls Tryd.prog 119 #[.string s, .int .i64 a] w fun e w' => e = .returned (.int .i64 (3)) ∧ w = w' := by
  have hbt := get_bt s
  have hb0 := bt_nonneg s a
  have hb1 := bt_le s a
  go_enter Tryd.func119, Tryd.ntmps119
  go_wp2_with fail
  refine (tail_at s _ (a + 1) (by omega) 128 191 _).mono ?_
  rintro e w' ⟨rfl, rfl⟩
  rw [t1]
  go_wp2_with fail
  refine (tail_at s _ (a + 2) (by omega) 128 191 _).mono ?_
  rintro e w' ⟨rfl, rfl⟩
  rw [t2]
  go_wp2_with fail
  refine (tail_at s _ (a + 3) (by omega) 128 191 _).mono ?_
  rintro e w' ⟨rfl, rfl⟩
  go_wp2_with fail
  refine (tail_at s _ (a + 1) (by omega) 160 191 _).mono ?_
  rintro e w' ⟨rfl, rfl⟩
  go_wp2_with fail
  refine (tail_at s _ (a + 1) (by omega) 128 159 _).mono ?_
  rintro e w' ⟨rfl, rfl⟩
  rw [t4]
  go_wp2_with fail
  go_wp2
  all_goals go_ret
  all_goals exact ⟨rfl, rfl⟩

theorem char_3_237_false (s : ByteArray) (a : Nat) (ha : a < s.size) (w : World) (hs : s.size ≤ 281474976710656) (h1 : 224 ≤ bt s a) (h2 : bt s a ≤ 239) (t1 : tl s (a + 1) 128 191 = true) (t2 : tl s (a + 2) 128 191 = true) (h3 : bt s a = 237) (t4 : tl s (a + 1) 128 159 = false) :
    Calls Tryd.prog 119 #[.string s, .int .i64 a] w fun e w' => e = .returned (.int .i64 (0)) ∧ w = w' := by
  have hbt := get_bt s
  have hb0 := bt_nonneg s a
  have hb1 := bt_le s a
  go_enter Tryd.func119, Tryd.ntmps119
  go_wp2_with fail
  refine (tail_at s _ (a + 1) (by omega) 128 191 _).mono ?_
  rintro e w' ⟨rfl, rfl⟩
  rw [t1]
  go_wp2_with fail
  refine (tail_at s _ (a + 2) (by omega) 128 191 _).mono ?_
  rintro e w' ⟨rfl, rfl⟩
  rw [t2]
  go_wp2_with fail
  refine (tail_at s _ (a + 3) (by omega) 128 191 _).mono ?_
  rintro e w' ⟨rfl, rfl⟩
  go_wp2_with fail
  refine (tail_at s _ (a + 1) (by omega) 160 191 _).mono ?_
  rintro e w' ⟨rfl, rfl⟩
  go_wp2_with fail
  refine (tail_at s _ (a + 1) (by omega) 128 159 _).mono ?_
  rintro e w' ⟨rfl, rfl⟩
  rw [t4]
  go_wp2_with fail
  go_wp2
  all_goals go_ret
  all_goals exact ⟨rfl, rfl⟩

theorem char_4n1 (s : ByteArray) (a : Nat) (ha : a < s.size) (w : World) (hs : s.size ≤ 281474976710656) (h1 : 240 ≤ bt s a) (h2 : bt s a ≤ 244) (t1 : tl s (a + 1) 128 191 = false) :
    Calls Tryd.prog 119 #[.string s, .int .i64 a] w fun e w' => e = .returned (.int .i64 (0)) ∧ w = w' := by
  have hbt := get_bt s
  have hb0 := bt_nonneg s a
  have hb1 := bt_le s a
  go_enter Tryd.func119, Tryd.ntmps119
  go_wp2_with fail
  refine (tail_at s _ (a + 1) (by omega) 128 191 _).mono ?_
  rintro e w' ⟨rfl, rfl⟩
  rw [t1]
  go_wp2_with fail
  refine (tail_at s _ (a + 2) (by omega) 128 191 _).mono ?_
  rintro e w' ⟨rfl, rfl⟩
  go_wp2_with fail
  refine (tail_at s _ (a + 3) (by omega) 128 191 _).mono ?_
  rintro e w' ⟨rfl, rfl⟩
  go_wp2_with fail
  go_wp2
  all_goals go_ret
  all_goals exact ⟨rfl, rfl⟩

theorem char_4n2 (s : ByteArray) (a : Nat) (ha : a < s.size) (w : World) (hs : s.size ≤ 281474976710656) (h1 : 240 ≤ bt s a) (h2 : bt s a ≤ 244) (t1 : tl s (a + 1) 128 191 = true) (t2 : tl s (a + 2) 128 191 = false) :
    Calls Tryd.prog 119 #[.string s, .int .i64 a] w fun e w' => e = .returned (.int .i64 (0)) ∧ w = w' := by
  have hbt := get_bt s
  have hb0 := bt_nonneg s a
  have hb1 := bt_le s a
  go_enter Tryd.func119, Tryd.ntmps119
  go_wp2_with fail
  refine (tail_at s _ (a + 1) (by omega) 128 191 _).mono ?_
  rintro e w' ⟨rfl, rfl⟩
  rw [t1]
  go_wp2_with fail
  refine (tail_at s _ (a + 2) (by omega) 128 191 _).mono ?_
  rintro e w' ⟨rfl, rfl⟩
  rw [t2]
  go_wp2_with fail
  refine (tail_at s _ (a + 3) (by omega) 128 191 _).mono ?_
  rintro e w' ⟨rfl, rfl⟩
  go_wp2_with fail
  go_wp2
  all_goals go_ret
  all_goals exact ⟨rfl, rfl⟩

theorem char_4n3 (s : ByteArray) (a : Nat) (ha : a < s.size) (w : World) (hs : s.size ≤ 281474976710656) (h1 : 240 ≤ bt s a) (h2 : bt s a ≤ 244) (t1 : tl s (a + 1) 128 191 = true) (t2 : tl s (a + 2) 128 191 = true) (t3 : tl s (a + 3) 128 191 = false) :
    Calls Tryd.prog 119 #[.string s, .int .i64 a] w fun e w' => e = .returned (.int .i64 (0)) ∧ w = w' := by
  have hbt := get_bt s
  have hb0 := bt_nonneg s a
  have hb1 := bt_le s a
  go_enter Tryd.func119, Tryd.ntmps119
  go_wp2_with fail
  refine (tail_at s _ (a + 1) (by omega) 128 191 _).mono ?_
  rintro e w' ⟨rfl, rfl⟩
  rw [t1]
  go_wp2_with fail
  refine (tail_at s _ (a + 2) (by omega) 128 191 _).mono ?_
  rintro e w' ⟨rfl, rfl⟩
  rw [t2]
  go_wp2_with fail
  refine (tail_at s _ (a + 3) (by omega) 128 191 _).mono ?_
  rintro e w' ⟨rfl, rfl⟩
  rw [t3]
  go_wp2_with fail
  go_wp2
  all_goals go_ret
  all_goals exact ⟨rfl, rfl⟩

theorem char_4 (s : ByteArray) (a : Nat) (ha : a < s.size) (w : World) (hs : s.size ≤ 281474976710656) (h1 : 240 ≤ bt s a) (h2 : bt s a ≤ 244) (t1 : tl s (a + 1) 128 191 = true) (t2 : tl s (a + 2) 128 191 = true) (t3 : tl s (a + 3) 128 191 = true) (h3 : (bt s a == 240) = false) (h4 : (bt s a == 244) = false) :
    Calls Tryd.prog 119 #[.string s, .int .i64 a] w fun e w' => e = .returned (.int .i64 (4)) ∧ w = w' := by
  have hbt := get_bt s
  have hb0 := bt_nonneg s a
  have hb1 := bt_le s a
  go_enter Tryd.func119, Tryd.ntmps119
  go_wp2_with fail
  refine (tail_at s _ (a + 1) (by omega) 128 191 _).mono ?_
  rintro e w' ⟨rfl, rfl⟩
  rw [t1]
  go_wp2_with fail
  refine (tail_at s _ (a + 2) (by omega) 128 191 _).mono ?_
  rintro e w' ⟨rfl, rfl⟩
  rw [t2]
  go_wp2_with fail
  refine (tail_at s _ (a + 3) (by omega) 128 191 _).mono ?_
  rintro e w' ⟨rfl, rfl⟩
  rw [t3]
  go_wp2_with fail
  refine (tail_at s _ (a + 1) (by omega) 144 191 _).mono ?_
  rintro e w' ⟨rfl, rfl⟩
  go_wp2_with fail
  refine (tail_at s _ (a + 1) (by omega) 128 143 _).mono ?_
  rintro e w' ⟨rfl, rfl⟩
  go_wp2_with fail
  go_wp2
  all_goals go_ret
  all_goals exact ⟨rfl, rfl⟩

theorem char_4_240_true (s : ByteArray) (a : Nat) (ha : a < s.size) (w : World) (hs : s.size ≤ 281474976710656) (h1 : 240 ≤ bt s a) (h2 : bt s a ≤ 244) (t1 : tl s (a + 1) 128 191 = true) (t2 : tl s (a + 2) 128 191 = true) (t3 : tl s (a + 3) 128 191 = true) (h3 : bt s a = 240) (t4 : tl s (a + 1) 144 191 = true) :
    Calls Tryd.prog 119 #[.string s, .int .i64 a] w fun e w' => e = .returned (.int .i64 (4)) ∧ w = w' := by
  have hbt := get_bt s
  have hb0 := bt_nonneg s a
  have hb1 := bt_le s a
  go_enter Tryd.func119, Tryd.ntmps119
  go_wp2_with fail
  refine (tail_at s _ (a + 1) (by omega) 128 191 _).mono ?_
  rintro e w' ⟨rfl, rfl⟩
  rw [t1]
  go_wp2_with fail
  refine (tail_at s _ (a + 2) (by omega) 128 191 _).mono ?_
  rintro e w' ⟨rfl, rfl⟩
  rw [t2]
  go_wp2_with fail
  refine (tail_at s _ (a + 3) (by omega) 128 191 _).mono ?_
  rintro e w' ⟨rfl, rfl⟩
  rw [t3]
  go_wp2_with fail
  refine (tail_at s _ (a + 1) (by omega) 144 191 _).mono ?_
  rintro e w' ⟨rfl, rfl⟩
  rw [t4]
  go_wp2_with fail
  refine (tail_at s _ (a + 1) (by omega) 128 143 _).mono ?_
  rintro e w' ⟨rfl, rfl⟩
  go_wp2_with fail
  go_wp2
  all_goals go_ret
  all_goals exact ⟨rfl, rfl⟩

theorem char_4_240_false (s : ByteArray) (a : Nat) (ha : a < s.size) (w : World) (hs : s.size ≤ 281474976710656) (h1 : 240 ≤ bt s a) (h2 : bt s a ≤ 244) (t1 : tl s (a + 1) 128 191 = true) (t2 : tl s (a + 2) 128 191 = true) (t3 : tl s (a + 3) 128 191 = true) (h3 : bt s a = 240) (t4 : tl s (a + 1) 144 191 = false) :
    Calls Tryd.prog 119 #[.string s, .int .i64 a] w fun e w' => e = .returned (.int .i64 (0)) ∧ w = w' := by
  have hbt := get_bt s
  have hb0 := bt_nonneg s a
  have hb1 := bt_le s a
  go_enter Tryd.func119, Tryd.ntmps119
  go_wp2_with fail
  refine (tail_at s _ (a + 1) (by omega) 128 191 _).mono ?_
  rintro e w' ⟨rfl, rfl⟩
  rw [t1]
  go_wp2_with fail
  refine (tail_at s _ (a + 2) (by omega) 128 191 _).mono ?_
  rintro e w' ⟨rfl, rfl⟩
  rw [t2]
  go_wp2_with fail
  refine (tail_at s _ (a + 3) (by omega) 128 191 _).mono ?_
  rintro e w' ⟨rfl, rfl⟩
  rw [t3]
  go_wp2_with fail
  refine (tail_at s _ (a + 1) (by omega) 144 191 _).mono ?_
  rintro e w' ⟨rfl, rfl⟩
  rw [t4]
  go_wp2_with fail
  refine (tail_at s _ (a + 1) (by omega) 128 143 _).mono ?_
  rintro e w' ⟨rfl, rfl⟩
  go_wp2_with fail
  go_wp2
  all_goals go_ret
  all_goals exact ⟨rfl, rfl⟩

theorem char_4_244_true (s : ByteArray) (a : Nat) (ha : a < s.size) (w : World) (hs : s.size ≤ 281474976710656) (h1 : 240 ≤ bt s a) (h2 : bt s a ≤ 244) (t1 : tl s (a + 1) 128 191 = true) (t2 : tl s (a + 2) 128 191 = true) (t3 : tl s (a + 3) 128 191 = true) (h3 : bt s a = 244) (t4 : tl s (a + 1) 128 143 = true) :
    Calls Tryd.prog 119 #[.string s, .int .i64 a] w fun e w' => e = .returned (.int .i64 (4)) ∧ w = w' := by
  have hbt := get_bt s
  have hb0 := bt_nonneg s a
  have hb1 := bt_le s a
  go_enter Tryd.func119, Tryd.ntmps119
  go_wp2_with fail
  refine (tail_at s _ (a + 1) (by omega) 128 191 _).mono ?_
  rintro e w' ⟨rfl, rfl⟩
  rw [t1]
  go_wp2_with fail
  refine (tail_at s _ (a + 2) (by omega) 128 191 _).mono ?_
  rintro e w' ⟨rfl, rfl⟩
  rw [t2]
  go_wp2_with fail
  refine (tail_at s _ (a + 3) (by omega) 128 191 _).mono ?_
  rintro e w' ⟨rfl, rfl⟩
  rw [t3]
  go_wp2_with fail
  refine (tail_at s _ (a + 1) (by omega) 144 191 _).mono ?_
  rintro e w' ⟨rfl, rfl⟩
  go_wp2_with fail
  refine (tail_at s _ (a + 1) (by omega) 128 143 _).mono ?_
  rintro e w' ⟨rfl, rfl⟩
  rw [t4]
  go_wp2_with fail
  go_wp2
  all_goals go_ret
  all_goals exact ⟨rfl, rfl⟩

theorem char_4_244_false (s : ByteArray) (a : Nat) (ha : a < s.size) (w : World) (hs : s.size ≤ 281474976710656) (h1 : 240 ≤ bt s a) (h2 : bt s a ≤ 244) (t1 : tl s (a + 1) 128 191 = true) (t2 : tl s (a + 2) 128 191 = true) (t3 : tl s (a + 3) 128 191 = true) (h3 : bt s a = 244) (t4 : tl s (a + 1) 128 143 = false) :
    Calls Tryd.prog 119 #[.string s, .int .i64 a] w fun e w' => e = .returned (.int .i64 (0)) ∧ w = w' := by
  have hbt := get_bt s
  have hb0 := bt_nonneg s a
  have hb1 := bt_le s a
  go_enter Tryd.func119, Tryd.ntmps119
  go_wp2_with fail
  refine (tail_at s _ (a + 1) (by omega) 128 191 _).mono ?_
  rintro e w' ⟨rfl, rfl⟩
  rw [t1]
  go_wp2_with fail
  refine (tail_at s _ (a + 2) (by omega) 128 191 _).mono ?_
  rintro e w' ⟨rfl, rfl⟩
  rw [t2]
  go_wp2_with fail
  refine (tail_at s _ (a + 3) (by omega) 128 191 _).mono ?_
  rintro e w' ⟨rfl, rfl⟩
  rw [t3]
  go_wp2_with fail
  refine (tail_at s _ (a + 1) (by omega) 144 191 _).mono ?_
  rintro e w' ⟨rfl, rfl⟩
  go_wp2_with fail
  refine (tail_at s _ (a + 1) (by omega) 128 143 _).mono ?_
  rintro e w' ⟨rfl, rfl⟩
  rw [t4]
  go_wp2_with fail
  go_wp2
  all_goals go_ret
  all_goals exact ⟨rfl, rfl⟩
end Go.Proofs.YtedapgeabpadaaaDoor

namespace Go.Proofs.YtedapgeabpadaaaDoor
open Go.RowKit Pl Go.Shelf
open Go.PlainAid (bt bt_nonneg bt_le get_bt bt_end)

theorem nx_rest {s : ByteArray} {a : Nat} (h : ¬ (1 ≤ bt s a ∧ bt s a ≤ 127)) : nx s a =
    if 194 ≤ bt s a ∧ bt s a ≤ 223 ∧ tl s (a + 1) 128 191 = true then 2
    else if 224 ≤ bt s a ∧ bt s a ≤ 239 ∧ tl s (a + 1) 128 191 = true ∧ tl s (a + 2) 128 191 = true then
      (if (bt s a = 224 ∧ tl s (a + 1) 160 191 = false) ∨ (bt s a = 237 ∧ tl s (a + 1) 128 159 = false) then 0 else 3)
    else if 240 ≤ bt s a ∧ bt s a ≤ 244 ∧ tl s (a + 1) 128 191 = true ∧ tl s (a + 2) 128 191 = true ∧ tl s (a + 3) 128 191 = true then
      (if (bt s a = 240 ∧ tl s (a + 1) 144 191 = false) ∨ (bt s a = 244 ∧ tl s (a + 1) 128 143 = false) then 0 else 4)
    else 0 := by unfold nx; rw [if_neg h]

theorem char_any (s : ByteArray) (a : Nat) (ha : a < s.size) (w : World) (hs : s.size ≤ 281474976710656) :
    Calls Tryd.prog 119 #[.string s, .int .i64 a] w fun e w' => e = .returned (.int .i64 (nx s a)) ∧ w = w' := by
  have hb0 := bt_nonneg s a
  have hb1 := bt_le s a
  have key : ∀ n : Nat, nx s a = n → (Calls Tryd.prog 119 #[.string s, .int .i64 a] w fun e w' => e = .returned (.int .i64 (n : Int)) ∧ w = w') → Calls Tryd.prog 119 #[.string s, .int .i64 a] w fun e w' => e = .returned (.int .i64 (nx s a)) ∧ w = w' := by
    intro n h hc
    rw [h]
    exact hc
  by_cases c1 : 1 ≤ bt s a ∧ bt s a ≤ 127
  · exact key 1 (by unfold nx; rw [if_pos c1]) (char_1 s a ha w hs c1.1 c1.2)
  · have u1 := nx_rest c1
    by_cases c0 : bt s a = 0
    · exact key 0 (by rw [u1, if_neg (by omega), if_neg (by omega), if_neg (by omega)]) (char_0a s a ha w hs c0)
    · by_cases cb : bt s a ≤ 193
      · exact key 0 (by rw [u1, if_neg (by omega), if_neg (by omega), if_neg (by omega)]) (char_0b s a ha w hs (by omega) cb)
      · by_cases cc : 245 ≤ bt s a
        · exact key 0 (by rw [u1, if_neg (by omega), if_neg (by omega), if_neg (by omega)]) (char_0c s a ha w hs cc)
        · by_cases c2 : bt s a ≤ 223
          · cases t1 : tl s (a + 1) 128 191
            · exact key 0 (by rw [u1, if_neg (by rw [t1]; simp), if_neg (by omega), if_neg (by omega)]) (char_2n s a ha w hs (by omega) c2 t1)
            · exact key 2 (by rw [u1, if_pos ⟨by omega, c2, t1⟩]) (char_2 s a ha w hs (by omega) c2 t1)
          · have u2 := u1
            rw [if_neg (show ¬ (194 ≤ bt s a ∧ bt s a ≤ 223 ∧ tl s (a + 1) 128 191 = true) by omega)] at u2
            by_cases c3 : bt s a ≤ 239
            · rw [if_neg (show ¬ (240 ≤ bt s a ∧ bt s a ≤ 244 ∧ tl s (a + 1) 128 191 = true ∧ tl s (a + 2) 128 191 = true ∧ tl s (a + 3) 128 191 = true) by omega)] at u2
              cases t1 : tl s (a + 1) 128 191
              · exact key 0 (by rw [u2, if_neg (by rw [t1]; simp)]) (char_3n1 s a ha w hs (by omega) c3 t1)
              · cases t2 : tl s (a + 2) 128 191
                · exact key 0 (by rw [u2, if_neg (by rw [t2]; simp)]) (char_3n2 s a ha w hs (by omega) c3 t1 t2)
                · rw [if_pos ⟨by omega, c3, t1, t2⟩] at u2
                  by_cases e1 : bt s a = 224
                  · cases t4 : tl s (a + 1) 160 191
                    · exact key 0 (by rw [u2, if_pos (.inl ⟨e1, t4⟩)]) (char_3_224_false s a ha w hs (by omega) c3 t1 t2 e1 t4)
                    · exact key 3 (by rw [u2, if_neg (by rw [t4]; rintro (⟨_, h⟩ | ⟨h, _⟩); exact absurd h (by simp); omega)]) (char_3_224_true s a ha w hs (by omega) c3 t1 t2 e1 t4)
                  · by_cases e2 : bt s a = 237
                    · cases t4 : tl s (a + 1) 128 159
                      · exact key 0 (by rw [u2, if_pos (.inr ⟨e2, t4⟩)]) (char_3_237_false s a ha w hs (by omega) c3 t1 t2 e2 t4)
                      · exact key 3 (by rw [u2, if_neg (by rw [t4]; rintro (⟨h, _⟩ | ⟨_, h⟩); omega; exact absurd h (by simp))]) (char_3_237_true s a ha w hs (by omega) c3 t1 t2 e2 t4)
                    · exact key 3 (by rw [u2, if_neg (by rintro (⟨h, _⟩ | ⟨h, _⟩); exact e1 h; exact e2 h)]) (char_3 s a ha w hs (by omega) c3 t1 t2 (beq_eq_false_iff_ne.2 e1) (beq_eq_false_iff_ne.2 e2))
            · rw [if_neg (show ¬ (224 ≤ bt s a ∧ bt s a ≤ 239 ∧ tl s (a + 1) 128 191 = true ∧ tl s (a + 2) 128 191 = true) by omega)] at u2
              cases t1 : tl s (a + 1) 128 191
              · exact key 0 (by rw [u2, if_neg (by rw [t1]; simp)]) (char_4n1 s a ha w hs (by omega) (by omega) t1)
              · cases t2 : tl s (a + 2) 128 191
                · exact key 0 (by rw [u2, if_neg (by rw [t2]; simp)]) (char_4n2 s a ha w hs (by omega) (by omega) t1 t2)
                · cases t3 : tl s (a + 3) 128 191
                  · exact key 0 (by rw [u2, if_neg (by rw [t3]; simp)]) (char_4n3 s a ha w hs (by omega) (by omega) t1 t2 t3)
                  · rw [if_pos ⟨by omega, by omega, t1, t2, t3⟩] at u2
                    by_cases e1 : bt s a = 240
                    · cases t4 : tl s (a + 1) 144 191
                      · exact key 0 (by rw [u2, if_pos (.inl ⟨e1, t4⟩)]) (char_4_240_false s a ha w hs (by omega) (by omega) t1 t2 t3 e1 t4)
                      · exact key 4 (by rw [u2, if_neg (by rw [t4]; rintro (⟨_, h⟩ | ⟨h, _⟩); exact absurd h (by simp); omega)]) (char_4_240_true s a ha w hs (by omega) (by omega) t1 t2 t3 e1 t4)
                    · by_cases e2 : bt s a = 244
                      · cases t4 : tl s (a + 1) 128 143
                        · exact key 0 (by rw [u2, if_pos (.inr ⟨e2, t4⟩)]) (char_4_244_false s a ha w hs (by omega) (by omega) t1 t2 t3 e2 t4)
                        · exact key 4 (by rw [u2, if_neg (by rw [t4]; rintro (⟨h, _⟩ | ⟨_, h⟩); omega; exact absurd h (by simp))]) (char_4_244_true s a ha w hs (by omega) (by omega) t1 t2 t3 e2 t4)
                      · exact key 4 (by rw [u2, if_neg (by rintro (⟨h, _⟩ | ⟨h, _⟩); exact e1 h; exact e2 h)]) (char_4 s a ha w hs (by omega) (by omega) t1 t2 t3 (beq_eq_false_iff_ne.2 e1) (beq_eq_false_iff_ne.2 e2))
end Go.Proofs.YtedapgeabpadaaaDoor

namespace Go.Proofs.YtedapgeabpadaaaDoor
open Go.RowKit Pl Go.Shelf
open Go.PlainAid (bt bt_nonneg bt_le get_bt bt_end)

theorem reffault_any (s : ByteArray) (w : World) (hs : s.size ≤ 281474976710656) :
    Calls Tryd.prog 108 #[.string s] w fun e w' => e = .returned (.tuple #[.int .i64 (flt s s.size 0).1, .bool (flt s s.size 0).2]) ∧ w = w' := by
  go_enter Tryd.func108, Tryd.ntmps108
  go_wp2
  go_loop [4] (fun i => ∃ a f : Nat, i = .int .i64 a ∧ a ≤ s.size ∧ s.size ≤ a + f ∧ Hid (flt s s.size 0 = flt s f a)) (fun i => s.size - (intOf i).toNat)
  case atStart => exact ⟨0, s.size, rfl, by omega, by omega, rfl⟩
  case round =>
    obtain ⟨a, f, rfl, ha, hf, hv⟩ := hrel
    by_cases hlt : a < s.size
    · obtain ⟨n, hn⟩ : ∃ n, nx s a = n := ⟨_, rfl⟩
      have Hn := Lib.hid hn
      clear hn
      by_cases h0 : n = 0
      · have hr := Lib.hid (hv.out.trans (flt_bad hlt hf (Hn.out.trans h0)))
        subst h0
        go_wp2_with fail
        refine (char_any s a hlt _ hs).mono ?_
        rintro e w1 ⟨rfl, rfl⟩
        rw [Hn.out]
        go_wp2
        go_ret2
        exact ⟨ret2 (val_int (by rw [hr.out])) (val_bool (by rw [hr.out])), rfl⟩
      · have hne : ((n : Int) == 0) = false := by rw [beq_eq_false_iff_ne]; omega
        have hle : a + n ≤ s.size := by have := nx_le s a (by rw [Hn.out]; exact h0); rw [Hn.out] at this; exact this
        have hr := Lib.hid (hv.out.trans (flt_step hlt hf (by rw [Hn.out]; exact h0)))
        go_wp2_with fail
        refine (char_any s a hlt _ hs).mono ?_
        rintro e w1 ⟨rfl, rfl⟩
        rw [Hn.out]
        go_wp2
        go_round
        case rel => exact ⟨a + n, f - 1, by go_num, hle, by omega, by rw [hr.out, Hn.out]; exact Lib.hid rfl⟩
        case measure => simp [intOf]; omega
    · have hr := Lib.hid (hv.out.trans (flt_end (by omega)))
      go_wp2
      go_ret2
      exact ⟨ret2 (val_int (by rw [hr.out])) (val_bool (by rw [hr.out])), rfl⟩

end Go.Proofs.YtedapgeabpadaaaDoor

namespace Go.Proofs.YtedapgeabpadaaaDoor.Pl
open Go.PlainAid (bt bt_nonneg bt_le get_bt bt_end)

/-- The lowest r bytes of a number, the highest first. -/
def fb : Nat → Int → List UInt8
  | 0, _ => []
  | r + 1, n => by8 (n / 256 ^ r) :: fb r n
theorem fb_length (r : Nat) (n : Int) : (fb r n).length = r := by
  induction r with
  | zero => rfl
  | succ r ih => simp [fb, ih]
/-- One, two or four bytes. -/
def Wide (w : Int) : Prop := w = 1 ∨ w = 2 ∨ w = 4
instance (w : Int) : Decidable (Wide w) := by unfold Wide; infer_instance
def fixC (w n : Int) : Int := if ¬ Wide w then 128 else if n < 0 ∨ 256 ^ w.toNat ≤ n then 129 else 0
def fixS (w n : Int) : List UInt8 := if fixC w n = 0 then fb w.toNat n else []
theorem fix_in {w n : Int} (h : Wide w) (h0 : 0 ≤ n) (h1 : n < 256 ^ w.toNat) : fixC w n = 0 ∧ fixS w n = fb w.toNat n := by
  have h2 : fixC w n = 0 := by unfold fixC; rw [if_neg (not_not_intro h), if_neg (by omega)]
  exact ⟨h2, by unfold fixS; rw [h2]; rfl⟩

/-- The number of the first k bytes at a place. -/
def gv (s : ByteArray) (a : Nat) : Nat → Int
  | 0 => 0
  | k + 1 => gv s a k * 256 + bt s (a + k)
theorem gv_bd (s : ByteArray) (a : Nat) : ∀ k, 0 ≤ gv s a k ∧ gv s a k < 256 ^ k
  | 0 => ⟨Int.le_refl _, by show (0 : Int) < 1; decide⟩
  | k + 1 => by
    have ⟨h0, h1⟩ := gv_bd s a k
    have hb0 := bt_nonneg s (a + k)
    have hb1 := bt_le s (a + k)
    simp only [gv, Int.pow_succ]
    omega
theorem gv_bd3 (s : ByteArray) (a k : Nat) (h : k ≤ 3) : gv s a k < 16777216 := by
  have ⟨_, h1⟩ := gv_bd s a k
  obtain rfl | rfl | rfl | rfl : k = 0 ∨ k = 1 ∨ k = 2 ∨ k = 3 := by omega
  all_goals (simp at h1; omega)
/-- The number of so many bytes at a place: the number, the place behind it, the code. -/
def getF (s : ByteArray) (at_ w : Int) : Int × Int × Int :=
  if ¬ Wide w ∨ at_ < 0 ∨ (s.size : Int) < at_ then (0, 0, 128) else if (s.size : Int) - at_ < w then (0, 0, 242) else (gv s at_.toNat w.toNat, at_ + w, 0)
theorem getF_bad {s : ByteArray} {at_ w : Int} (h : ¬ Wide w ∨ at_ < 0 ∨ (s.size : Int) < at_) : getF s at_ w = (0, 0, 128) := by unfold getF; rw [if_pos h]
theorem getF_none {s : ByteArray} {at_ w : Int} (h : ¬ (¬ Wide w ∨ at_ < 0 ∨ (s.size : Int) < at_)) (h2 : (s.size : Int) - at_ < w) : getF s at_ w = (0, 0, 242) := by unfold getF; rw [if_neg h, if_pos h2]
theorem getF_ok {s : ByteArray} {a : Nat} {w : Int} (h : Wide w) (h2 : (a : Int) + w ≤ s.size) : getF s a w = (gv s a w.toNat, a + w, 0) := by
  unfold getF
  have : 0 < w := by unfold Wide at h; omega
  rw [if_neg (by rintro (h3 | h3 | h3); exact h3 h; omega; omega), if_neg (by omega)]
  rfl
end Go.Proofs.YtedapgeabpadaaaDoor.Pl

namespace Go.Proofs.YtedapgeabpadaaaDoor
open Go.RowKit Pl
open Go.PlainAid (bt bt_nonneg bt_le get_bt bt_end)
theorem ret_getf {k : IntKind} {p : Int × Int × Int} {x y z : Int} (h : p = (x, y, z)) :
    Ending.returned (.tuple #[.int .i64 x, .int .i64 y, .int k z]) = .returned (.tuple #[.int .i64 p.1, .int .i64 p.2.1, .int k p.2.2]) := by rw [h]
end Go.Proofs.YtedapgeabpadaaaDoor

