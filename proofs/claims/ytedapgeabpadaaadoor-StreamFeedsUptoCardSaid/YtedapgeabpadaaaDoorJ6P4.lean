/- Parts of the proof, joined: Wr3, PReader, BackPlain, RdPlain, PRValue, PGet. -/
import Derived.Test.YtedapgeabpadaaaDoorJ6P3
import Derived.Test.YtedapgeabpadaaaDoorShelf
import Derived.Shelf.Strings.BuilderX
import Derived.Lib.Strings
import Derived.Lib.Slices
import Derived.Lib.Walk
import Derived.Lib.Builder
import Derived.Lib.AppendStr
import Derived.Lib.UnsafeStr
import Derived.Lib.MakeNoZero
import Derived.WalkKit
import Derived.Laws.Externs
import Derived.Laws.IdiomCopy
import Derived.Laws.BitsLemmas
import Derived.Test.YtedapgeabpadaaaDoorProg
import Derived.Test.YtedapgeabpadaaaDoorJ6P2
import Derived.Deep.RegionHeld3
import Derived.BigQuiet
import Derived.Deep.QuietTactic
set_option linter.unusedVariables false
namespace Go.Proofs.YtedapgeabpadaaaDoor
open Go.Shelf Go.RowKit Pl

theorem pcontains_any (fn : Nat) (first cp : Array Value) (q : Pp → Bool) (A : Option Addr) (n cap : Nat) (L : List Pp) (w : World) (hn : L.length = n) (hm : n ≤ 1048576) (h : PRow w A L)
    (he : ∀ args w, (callFunc fn args).run Tryd.prog w = .ok (.enter fn args) w)
    (hf : ∀ (p : Pp) (W : World), Below w.heap.size w W → Calls Tryd.prog fn (first.push (.agg #[.int .i64 p.id, .int .i64 p.n, .string p.s, .string p.t]) ++ cp) W fun e w' => e = .returned (.bool (q p)) ∧ Below W.heap.size W w') :
    Calls Tryd.prog 73 #[.slice A n cap, .func (.func fn) first cp] w fun e w' => e = .returned (.bool (L.any q)) ∧ Below w.heap.size w w' := by
  have C := Lib.hid (pindex_any fn first cp q A n cap L w hn hm h he hf)
  have hany : L.any q = (L.find? q).isSome := by rw [List.isSome_find?]
  rw [hany]
  clear hany
  obtain ⟨t, ht⟩ : ∃ t, (L.find? q).isSome = t := ⟨_, rfl⟩
  rw [ht]
  have HT := Lib.hid ht
  clear ht h hn hf
  cases t
  · go_enter Tryd.func73, Tryd.ntmps73
    go_wp2_with fail
    (with_reducible refine C.out.mono ?_)
    rintro e w1 ⟨z, rfl, hz, b1⟩
    have hz1 : z < 0 := by
      rcases hz with ⟨rfl, _⟩ | ⟨k, p, rfl, _, hs⟩
      · decide
      · have := HT.out; rw [hs] at this; cases this
    have hz2 : decide ((0 : Int) ≤ z) = false := by rw [decide_eq_false_iff_not]; omega
    clear hz hz1
    go_wp2
    go_ret
    exact ⟨rfl, b1⟩
  · go_enter Tryd.func73, Tryd.ntmps73
    go_wp2_with fail
    (with_reducible refine C.out.mono ?_)
    rintro e w1 ⟨z, rfl, hz, b1⟩
    have hz1 : 0 ≤ z := by
      rcases hz with ⟨rfl, hs⟩ | ⟨k, p, rfl, _, hs⟩
      · have := HT.out; rw [hs] at this; cases this
      · omega
    clear hz
    go_wp2
    go_ret
    exact ⟨rfl, b1⟩
end Go.Proofs.YtedapgeabpadaaaDoor

namespace Go.Proofs.YtedapgeabpadaaaDoor
set_option linter.unusedVariables false
open Go.RowKit Pl

abbrev S2r (X : World) (R : Nat) (s : ByteArray) (a : Int) : Prop := X.cell? ⟨R, 0, none⟩ = some (.string s) ∧ X.cell? ⟨R, 1, none⟩ = some (.int .i64 a)
def rdA (s : ByteArray) (a : Int) (bad : Bool) : Array Value := #[.string s, .int .i64 a, .bool bad]
theorem s2r_blw {X Y : World} {R : Nat} {s : ByteArray} {a : Int} (h : S2r X R s a) (hR : R < X.heap.size) (hb : Below X.heap.size X Y) : S2r Y R s a :=
  ⟨(hb.cell (p := ⟨R, 0, none⟩) hR).trans h.1, (hb.cell (p := ⟨R, 1, none⟩) hR).trans h.2⟩
set_option maxHeartbeats 4000000 in
theorem number_any (fn : Nat) (cp : Array Value) (R : Nat) (s : ByteArray) (a n tu c : Int) (w : World) (hR : Blk w R (rdA s a false) 172)
    (he : ∀ args w, (callFunc fn args).run Tryd.prog w = .ok (.enter fn args) w)
    (hf : ∀ W, Below w.heap.size w W → Calls Tryd.prog fn (#[.string s, .int .i64 a] ++ cp) W fun e w' => e = .returned (.tuple #[.int .i64 n, .int .i64 tu, .int .u8 c]) ∧ Below W.heap.size W w') :
    Calls Tryd.prog 99 #[.pointer (some ⟨R, 0, none⟩), .func (.func fn) #[] cp] w fun e w' => e = .returned (.int .i64 (if c = 0 then n else 0)) ∧ Blk w' R (rdA s (if c = 0 then tu else a) (c != 0)) 172 ∧ Mod (· = R) w w' := by
  have h0 := hR.cell 0
  have h1 := hR.cell 1
  have h2 := hR.cell 2
  have f1 := hR.frozen 1
  have f2 := hR.frozen 2
  have hl := hR.lt
  simp only [rdA, List.getElem?_toArray, List.getElem?_cons_zero, List.getElem?_cons_succ] at h0 h1 h2
  have hs0 : S2r w R s a := ⟨h0, h1⟩
  have HF := Lib.hid hf
  have HB := Lib.hid hR
  have bd : Below w.heap.size w w.drew := (Below.refl _ _).drew
  have hsd : S2r w.drew R s a := hs0
  have h2d : w.drew.cell? ⟨R, 2, none⟩ = some (.bool false) := h2
  have CF := Lib.hid (hf w.drew bd)
  clear hf hR h0 h1
  by_cases hc : c = 0
  · subst hc
    go_enter Tryd.func99, Tryd.ntmps99
    go_wp2_with fail
    go_region_held3 (fun X => S2r X R s a) (first | (with_reducible assumption) | exact hs0 | exact hsd | exact y1) (first | (go_at_fn fn; refine CF.out.mono ?_; rintro e w1 ⟨rfl, b1⟩; have y1 : S2r w1 R s a := s2r_blw hsd hl b1) | (fail))
    all_goals
      have hB1 := Lib.hid (HB.out.of_below (bd.trans b1))
      have hm1 := Lib.hid (Mod.of_below (S := (· = R)) (bd.trans b1))
      have g2 := (b1.cell (p := ⟨R, 2, none⟩) hl).trans h2d
      have k1 := hB1.out.frozen 1
      have k2 := hB1.out.frozen 2
      obtain ⟨y10, y11⟩ := y1
      clear b1
      go_wp2
      go_ret
      exact ⟨rfl, (hB1.out.set 2 _).set 1 _, (hm1.out.setCell (.inl rfl) _).setCell (.inl rfl) _⟩
  · have e0 : (c == 0) = false := by rw [beq_eq_false_iff_ne]; exact hc
    have e1 : (c != 0) = true := by rw [bne, e0]; rfl
    rw [if_neg hc, if_neg hc, e1]
    go_enter Tryd.func99, Tryd.ntmps99
    go_wp2_with fail
    go_region_held3 (fun X => S2r X R s a) (first | (with_reducible assumption) | exact hs0 | exact hsd | exact y1) (first | (go_at_fn fn; refine CF.out.mono ?_; rintro e w1 ⟨rfl, b1⟩; have y1 : S2r w1 R s a := s2r_blw hsd hl b1) | (fail))
    all_goals
      have hB1 := Lib.hid (HB.out.of_below (bd.trans b1))
      have hm1 := Lib.hid (Mod.of_below (S := (· = R)) (bd.trans b1))
      have g2 := (b1.cell (p := ⟨R, 2, none⟩) hl).trans h2d
      have k1 := hB1.out.frozen 1
      have k2 := hB1.out.frozen 2
      obtain ⟨y10, y11⟩ := y1
      clear b1
      go_wp2
      go_ret
      exact ⟨rfl, (hB1.out.set 2 _), hm1.out.setCell (.inl rfl) _⟩
set_option maxHeartbeats 4000000 in
theorem string_any (fn : Nat) (cp : Array Value) (R : Nat) (s : ByteArray) (u : ByteArray) (a tu c : Int) (w : World) (hR : Blk w R (rdA s a false) 172)
    (he : ∀ args w, (callFunc fn args).run Tryd.prog w = .ok (.enter fn args) w)
    (hf : ∀ W, Below w.heap.size w W → Calls Tryd.prog fn (#[.string s, .int .i64 a] ++ cp) W fun e w' => e = .returned (.tuple #[.string u, .int .i64 tu, .int .u8 c]) ∧ Below W.heap.size W w') :
    Calls Tryd.prog 113 #[.pointer (some ⟨R, 0, none⟩), .func (.func fn) #[] cp] w fun e w' => e = .returned (.string (if c = 0 then u else noS)) ∧ Blk w' R (rdA s (if c = 0 then tu else a) (c != 0)) 172 ∧ Mod (· = R) w w' := by
  have h0 := hR.cell 0
  have h1 := hR.cell 1
  have h2 := hR.cell 2
  have f1 := hR.frozen 1
  have f2 := hR.frozen 2
  have hl := hR.lt
  simp only [rdA, List.getElem?_toArray, List.getElem?_cons_zero, List.getElem?_cons_succ] at h0 h1 h2
  have hs0 : S2r w R s a := ⟨h0, h1⟩
  have HF := Lib.hid hf
  have HB := Lib.hid hR
  have bd : Below w.heap.size w w.drew := (Below.refl _ _).drew
  have hsd : S2r w.drew R s a := hs0
  have h2d : w.drew.cell? ⟨R, 2, none⟩ = some (.bool false) := h2
  have CF := Lib.hid (hf w.drew bd)
  clear hf hR h0 h1
  by_cases hc : c = 0
  · subst hc
    go_enter Tryd.func113, Tryd.ntmps113
    go_wp2_with fail
    go_region_held3 (fun X => S2r X R s a) (first | (with_reducible assumption) | exact hs0 | exact hsd | exact y1) (first | (go_at_fn fn; refine CF.out.mono ?_; rintro e w1 ⟨rfl, b1⟩; have y1 : S2r w1 R s a := s2r_blw hsd hl b1) | (fail))
    all_goals
      have hB1 := Lib.hid (HB.out.of_below (bd.trans b1))
      have hm1 := Lib.hid (Mod.of_below (S := (· = R)) (bd.trans b1))
      have g2 := (b1.cell (p := ⟨R, 2, none⟩) hl).trans h2d
      have k1 := hB1.out.frozen 1
      have k2 := hB1.out.frozen 2
      obtain ⟨y10, y11⟩ := y1
      clear b1
      go_wp2
      go_ret
      exact ⟨rfl, (hB1.out.set 2 _).set 1 _, (hm1.out.setCell (.inl rfl) _).setCell (.inl rfl) _⟩
  · have e0 : (c == 0) = false := by rw [beq_eq_false_iff_ne]; exact hc
    have e1 : (c != 0) = true := by rw [bne, e0]; rfl
    rw [if_neg hc, if_neg hc, e1]
    go_enter Tryd.func113, Tryd.ntmps113
    go_wp2_with fail
    go_region_held3 (fun X => S2r X R s a) (first | (with_reducible assumption) | exact hs0 | exact hsd | exact y1) (first | (go_at_fn fn; refine CF.out.mono ?_; rintro e w1 ⟨rfl, b1⟩; have y1 : S2r w1 R s a := s2r_blw hsd hl b1) | (fail))
    all_goals
      have hB1 := Lib.hid (HB.out.of_below (bd.trans b1))
      have hm1 := Lib.hid (Mod.of_below (S := (· = R)) (bd.trans b1))
      have g2 := (b1.cell (p := ⟨R, 2, none⟩) hl).trans h2d
      have k1 := hB1.out.frozen 1
      have k2 := hB1.out.frozen 2
      obtain ⟨y10, y11⟩ := y1
      clear b1
      go_wp2
      go_ret
      exact ⟨rfl, (hB1.out.set 2 _), hm1.out.setCell (.inl rfl) _⟩
set_option maxHeartbeats 4000000 in
theorem string_bad (fn : Nat) (cp : Array Value) (R : Nat) (s : ByteArray) (u : ByteArray) (a tu c : Int) (w : World) (hR : Blk w R (rdA s a true) 172)
    (he : ∀ args w, (callFunc fn args).run Tryd.prog w = .ok (.enter fn args) w)
    (hf : ∀ W, Below w.heap.size w W → Calls Tryd.prog fn (#[.string s, .int .i64 a] ++ cp) W fun e w' => e = .returned (.tuple #[.string u, .int .i64 tu, .int .u8 c]) ∧ Below W.heap.size W w') :
    Calls Tryd.prog 113 #[.pointer (some ⟨R, 0, none⟩), .func (.func fn) #[] cp] w fun e w' => e = .returned (.string noS) ∧ Blk w' R (rdA s a true) 172 ∧ Mod (· = R) w w' := by
  have h0 := hR.cell 0
  have h1 := hR.cell 1
  have h2 := hR.cell 2
  have f1 := hR.frozen 1
  have f2 := hR.frozen 2
  have hl := hR.lt
  simp only [rdA, List.getElem?_toArray, List.getElem?_cons_zero, List.getElem?_cons_succ] at h0 h1 h2
  have hs0 : S2r w R s a := ⟨h0, h1⟩
  have HB := Lib.hid hR
  have bd : Below w.heap.size w w.drew := (Below.refl _ _).drew
  have hsd : S2r w.drew R s a := hs0
  have h2d : w.drew.cell? ⟨R, 2, none⟩ = some (.bool true) := h2
  have CF := Lib.hid (hf w.drew bd)
  clear hf hR h0 h1
  go_enter Tryd.func113, Tryd.ntmps113
  go_wp2_with fail
  go_region_held3 (fun X => S2r X R s a) (first | (with_reducible assumption) | exact hs0 | exact hsd | exact y1) (first | (go_at_fn fn; refine CF.out.mono ?_; rintro e w1 ⟨rfl, b1⟩; have y1 : S2r w1 R s a := s2r_blw hsd hl b1) | (fail))
  all_goals
    have hB1 := Lib.hid (HB.out.of_below (bd.trans b1))
    have hm1 := Lib.hid (Mod.of_below (S := (· = R)) (bd.trans b1))
    have g2 := (b1.cell (p := ⟨R, 2, none⟩) hl).trans h2d
    have k1 := hB1.out.frozen 1
    have k2 := hB1.out.frozen 2
    obtain ⟨y10, y11⟩ := y1
    clear b1
    go_wp2
    go_ret
    exact ⟨rfl, (hB1.out.set 2 _), hm1.out.setCell (.inl rfl) _⟩
end Go.Proofs.YtedapgeabpadaaaDoor

namespace Go.Proofs.YtedapgeabpadaaaDoor.Pl
open Go.PlainAid (bt bt_nonneg bt_le get_bt bt_end)

/-- The bytes of n, written at place a with r of them left, are read as n on top of what has been gathered. -/
theorem gi_vb (s : ByteArray) : ∀ (r f k a : Nat) (n m : Int), 1 ≤ r → r ≤ f → 0 ≤ n → n < 128 ^ r → (1 < r ∨ 0 < k → 128 ^ (r - 1) ≤ n) →
    (∀ j (h : j < (vb n r).length), bt s (a + j) = (((vb n r)[j]).toNat : Int)) → a + r ≤ s.size →
    gi s f k m a = (m + n * 128 ^ k, ((a + r : Nat) : Int), 0) := by
  intro r
  induction r with
  | zero => intro f k a n m h; omega
  | succ r ih =>
    intro f k a n m _ hf h0 h1 hmin hb ha
    obtain ⟨f, rfl⟩ : ∃ g, f = g + 1 := ⟨f - 1, by omega⟩
    cases r with
    | zero =>
      have hb0 := hb 0 (by simp [vb])
      simp only [vb, List.getElem_cons_zero, by8_toNat, Nat.add_zero] at hb0
      simp at h1
      rw [show n % 128 % 256 = n from by omega] at hb0
      rw [gi_last (by omega) (by omega) (by rw [hb0]; rintro ⟨h2, h3⟩; have := hmin (.inr h2); simp at this; omega), hb0]
      simp
    | succ r =>
      have hb0 := hb 0 (by simp [vb])
      simp only [vb, List.getElem_cons_zero, by8_toNat, Nat.add_zero] at hb0
      rw [show (n % 128 + 128) % 256 = n % 128 + 128 from by omega] at hb0
      rw [gi_more (by omega) (by omega), hb0]
      have hp : (128 : Int) ^ (r + 1 + 1) = 128 ^ (r + 1) * 128 := Int.pow_succ _ _
      have hp2 : (128 : Int) ^ (r + 1) = 128 ^ r * 128 := Int.pow_succ _ _
      have h128 : (128 : Int) ^ (r + 1) ≤ n := hmin (.inl (by omega))
      rw [ih f (k + 1) (a + 1) (n / 128) _ (by omega) (by omega) (by omega) (by rw [hp] at h1; omega) (fun _ => by simp only [Nat.add_sub_cancel]; rw [hp2] at h128; omega) ?_ (by omega)]
      · have hk : (128 : Int) ^ (k + 1) = 128 ^ k * 128 := Int.pow_succ _ _
        congr 1
        · rw [hk, show (n % 128 + 128) % 128 = n % 128 from by omega]
          have : n % 128 + 128 * (n / 128) = n := by omega
          calc m + n % 128 * 128 ^ k + n / 128 * (128 ^ k * 128) = m + (n % 128 + 128 * (n / 128)) * 128 ^ k := by rw [Int.add_mul]; simp only [Int.mul_comm, Int.mul_left_comm, Int.mul_assoc, Int.add_assoc]
            _ = m + n * 128 ^ k := by rw [this]
        · congr 1
          omega
      · intro j hj
        have := hb (j + 1) (by simp only [vb, List.length_cons]; omega)
        simp only [vb, List.getElem_cons_succ] at this
        rw [show a + 1 + j = a + (j + 1) from by omega]
        exact this

theorem by8_bt (s : ByteArray) {a : Nat} (h : a < s.size) : by8 (bt s a) = s[a] := by
  have e := get_bt s a h
  rw [← e]
  unfold by8
  have := (s[a]).toNat_lt
  apply UInt8.toNat.inj
  rw [UInt8.toNat_ofNat']
  omega

/-- What is read stands there in its bytes. -/
theorem gi_back (s : ByteArray) : ∀ (f k a : Nat) (m v e : Int), gi s f k m a = (v, e, 0) →
    ∃ (r : Nat) (n : Int), 1 ≤ r ∧ r ≤ f ∧ v = m + n * 128 ^ k ∧ 0 ≤ n ∧ n < 128 ^ r ∧ (1 < r ∨ 0 < k → 128 ^ (r - 1) ≤ n) ∧ e = ((a + r : Nat) : Int) ∧ a + r ≤ s.size ∧
      ∀ j (h : j < (vb n r).length) (h2 : a + j < s.size), (vb n r)[j] = s[a + j] := by
  intro f
  induction f with
  | zero => intro k a m v e h; rw [gi_zero] at h; injection h with _ h; injection h with _ h; exact absurd h (by decide)
  | succ f ih =>
    intro k a m v e h
    have hb0 := bt_nonneg s a
    have hb1 := bt_le s a
    by_cases he : s.size ≤ a
    · rw [gi_end he] at h; injection h with _ h; injection h with _ h; exact absurd h (by decide)
    · by_cases hl : bt s a < 128
      · by_cases hk : 0 < k ∧ bt s a = 0
        · rw [gi_long he hl hk] at h; injection h with _ h; injection h with _ h; exact absurd h (by decide)
        · rw [gi_last he hl hk] at h
          injection h with h1 h
          injection h with h2 _
          refine ⟨1, bt s a, by omega, by omega, h1.symm, hb0, by simpa using hl, fun hc => ?_, by omega, by omega, ?_⟩
          · simp
            rcases hc with hc | hc
            · omega
            · have : bt s a ≠ 0 := fun h0 => hk ⟨hc, h0⟩
              omega
          · intro j hj h2
            obtain rfl : j = 0 := by simp [vb] at hj; omega
            simp only [vb, List.getElem_cons_zero, Nat.add_zero]
            rw [show bt s a % 128 = bt s a from by omega]
            exact by8_bt s (by omega)
      · rw [gi_more he (by omega)] at h
        obtain ⟨r, n, hr1, hrf, hv, hn0, hn1, hmin, hee, hsz, hby⟩ := ih (k + 1) (a + 1) _ v e h
        obtain ⟨q, rfl⟩ : ∃ q, r = q + 1 := ⟨r - 1, by omega⟩
        have hq : (128 : Int) ^ q ≤ n := hmin (.inr (by omega))
        have hp : (128 : Int) ^ (q + 1) = 128 ^ q * 128 := Int.pow_succ _ _
        have hp2 : (128 : Int) ^ (q + 1 + 1) = 128 ^ (q + 1) * 128 := Int.pow_succ _ _
        have hk : (128 : Int) ^ (k + 1) = 128 ^ k * 128 := Int.pow_succ _ _
        have hdiv : (bt s a % 128 + 128 * n) / 128 = n := by omega
        have hmod : (bt s a % 128 + 128 * n) % 128 = bt s a % 128 := by omega
        refine ⟨q + 1 + 1, bt s a % 128 + 128 * n, by omega, by omega, ?_, by omega, by rw [hp2]; omega, fun _ => by simp only [Nat.add_sub_cancel]; rw [hp]; omega, by omega, by omega, ?_⟩
        · rw [hv, hk, Int.add_mul]
          simp only [Int.mul_comm, Int.mul_assoc, Int.add_assoc]
        · intro j hj h2
          cases j with
          | zero =>
            simp only [vb, List.getElem_cons_zero, Nat.add_zero]
            rw [hmod, show bt s a % 128 + 128 = bt s a from by omega]
            exact by8_bt s (by omega)
          | succ j =>
            simp only [vb, List.getElem_cons_succ]
            have hl2 : j < (vb n (q + 1)).length := by rw [vb_length]; rw [vb_length] at hj; omega
            have h3 := hby j hl2 (by omega)
            have e1 : (vb ((bt s a % 128 + 128 * n) / 128) (q + 1)) = vb n (q + 1) := by rw [hdiv]
            have e2 : ∀ (l l' : List UInt8) (hl : j < l.length) (hll : l = l'), l[j] = l'[j]'(hll ▸ hl) := by intro l l' hl hll; subst hll; rfl
            rw [e2 _ _ _ e1, h3]
            congr 1
            omega

end Go.Proofs.YtedapgeabpadaaaDoor.Pl

namespace Go.Proofs.YtedapgeabpadaaaDoor
set_option linter.unusedVariables false
open Go.RowKit Pl

theorem getV_to {s : ByteArray} {a n tu : Int} (h : getV s a = (n, tu, 0)) : ∃ i j : Nat, a = i ∧ tu = j ∧ i < j ∧ j ≤ s.size ∧ j ≤ i + 4 ∧ 0 ≤ n ∧ n ≤ 268435455 := by
  by_cases hb : a < 0 ∨ (s.size : Int) < a
  · rw [getV_bad hb] at h; injection h with _ h; injection h with _ h; exact absurd h (by decide)
  · obtain ⟨i, rfl⟩ := Int.eq_ofNat_of_zero_le (show 0 ≤ a by omega)
    rw [getV_ok (by omega)] at h
    obtain ⟨r, v, hr1, hr4, hv, hn0, hn1, hmin, he, hsz, hby⟩ := gi_back s 4 0 i 0 n tu h
    obtain rfl : n = v := by rw [hv]; simp
    refine ⟨i, i + r, rfl, he, by omega, hsz, by omega, hn0, ?_⟩
    obtain rfl | rfl | rfl | rfl : r = 1 ∨ r = 2 ∨ r = 3 ∨ r = 4 := by omega
    all_goals (simp at hn1; omega)
theorem getF_to {s : ByteArray} {a d n tu : Int} (h : getF s a d = (n, tu, 0)) : ∃ i k : Nat, a = i ∧ d = k ∧ tu = (i + k : Nat) ∧ (k = 1 ∨ k = 2 ∨ k = 4) ∧ i + k ≤ s.size ∧ n = gv s i k := by
  by_cases hb : ¬ Wide d ∨ a < 0 ∨ (s.size : Int) < a
  · rw [getF_bad hb] at h; injection h with _ h; injection h with _ h; exact absurd h (by decide)
  · by_cases h2 : (s.size : Int) - a < d
    · rw [getF_none hb h2] at h; injection h with _ h; injection h with _ h; exact absurd h (by decide)
    · have hw : Wide d := by
        by_cases c : Wide d
        · exact c
        · exact absurd (.inl c) hb
      have ha : 0 ≤ a := by
        by_cases c : a < 0
        · exact absurd (.inr (.inl c)) hb
        · omega
      obtain ⟨i, rfl⟩ := Int.eq_ofNat_of_zero_le ha
      have hd : 0 ≤ d := by unfold Wide at hw; omega
      obtain ⟨k, rfl⟩ := Int.eq_ofNat_of_zero_le hd
      rw [getF_ok hw (by omega)] at h
      injection h with h1 h
      injection h with h3 _
      exact ⟨i, k, rfl, rfl, by omega, by unfold Wide at hw; omega, by omega, h1.symm⟩
theorem getD_to {s t : ByteArray} {a tu : Int} (h : getD s a = (t, tu, 0)) : ∃ i m : Nat, a = i ∧ tu = (i + 2 + m : Nat) ∧ i + 2 + m ≤ s.size ∧ m < 65536 ∧ gv s i 2 = m ∧ t = s.extract (i + 2) (i + 2 + m) := by
  rcases getF_two s a with e | e | ⟨i, m, rfl, e, hm, hi⟩
  · rw [getD_code e (by decide)] at h; injection h with _ h; injection h with _ h; exact absurd h (by decide)
  · rw [getD_code e (by decide)] at h; injection h with _ h; injection h with _ h; exact absurd h (by decide)
  · by_cases hn : (s.size : Int) - (i + 2 : Nat) < m
    · rw [getD_none e hn] at h; injection h with _ h; injection h with _ h; exact absurd h (by decide)
    · rw [getD_ok e (by omega)] at h
      injection h with h1 h
      injection h with h2 _
      obtain ⟨i', k, hi', hk, _, _, _, hg⟩ := getF_to e
      obtain rfl : i = i' := by omega
      obtain rfl : k = 2 := by omega
      exact ⟨i, m, rfl, by omega, by omega, hm, hg.symm, h1.symm⟩
theorem tget_getD {s t : ByteArray} {a tu : Int} (h : tget s a = (t, tu, 0)) : getD s a = (t, tu, 0) ∧ (flt t t.size 0).2 = false := by
  obtain ⟨⟨u, f, c⟩, hg⟩ : ∃ g, getD s a = g := ⟨_, rfl⟩
  by_cases hc : c = 0
  · subst hc
    by_cases hb : (flt u u.size 0).2 = true
    · rw [tget_bad hg hb] at h; injection h with _ h; injection h with _ h; exact absurd h (by decide)
    · have hb' : (flt u u.size 0).2 = false := by simpa using hb
      rw [tget_ok hg hb'] at h
      injection h with h1 h
      injection h with h2 _
      subst h1 h2
      exact ⟨hg, hb'⟩
  · rw [tget_code hg hc] at h; injection h with _ h; injection h with _ h; exact absurd h hc
theorem tget_to {s t : ByteArray} {a tu : Int} (h : tget s a = (t, tu, 0)) (hs : s.size ≤ 140737488351232) : -9223372036854775808 ≤ tu ∧ tu ≤ 9223372036854775807 := by
  obtain ⟨i, m, _, e, h1, _⟩ := getD_to (tget_getD h).1
  omega
theorem rdv_to {s : ByteArray} {id a tu : Int} {p : Pp} (h : rdv s id a = some (p, tu)) : ∃ i j : Nat, a = i ∧ tu = j ∧ i < j ∧ j ≤ s.size ∧ p.id = id := by
  unfold rdv at h
  split at h
  · split at h
    · rename_i hc
      obtain ⟨⟨n, f, c⟩, hg⟩ : ∃ g, getV s a = g := ⟨_, rfl⟩
      rw [hg] at h hc
      obtain rfl : c = 0 := hc
      injection h with h; injection h with h1 h2
      obtain ⟨i, j, e1, e2, e3, e4, _⟩ := getV_to hg
      exact ⟨i, j, e1, h2.symm.trans e2, e3, e4, by rw [← h1]⟩
    · cases h
  · split at h
    · split at h
      · rename_i hc
        obtain ⟨⟨n, f, c⟩, hg⟩ : ∃ g, getD s a = g := ⟨_, rfl⟩
        rw [hg] at h hc
        obtain rfl : c = 0 := hc
        injection h with h; injection h with h1 h2
        obtain ⟨i, m, e1, e2, e3, _⟩ := getD_to hg
        exact ⟨i, i + 2 + m, e1, h2.symm.trans e2, by omega, e3, by rw [← h1]⟩
      · cases h
    · split at h
      · split at h
        · rename_i hc
          obtain ⟨⟨n, f, c⟩, hg⟩ : ∃ g, tget s a = g := ⟨_, rfl⟩
          rw [hg] at h hc
          obtain rfl : c = 0 := hc
          injection h with h; injection h with h1 h2
          obtain ⟨i, m, e1, e2, e3, _⟩ := getD_to (tget_getD hg).1
          exact ⟨i, i + 2 + m, e1, h2.symm.trans e2, by omega, e3, by rw [← h1]⟩
        · cases h
      · split at h
        · split at h
          · split at h
            · rename_i hc hc2
              obtain ⟨⟨n, f, c⟩, hg⟩ : ∃ g, tget s a = g := ⟨_, rfl⟩
              rw [hg] at h hc hc2
              obtain rfl : c = 0 := hc
              obtain ⟨⟨n2, f2, c2⟩, hg2⟩ : ∃ g, tget s f = g := ⟨_, rfl⟩
              have hg2' : tget s (n, f, (0 : Int)).2.1 = (n2, f2, c2) := hg2
              rw [hg2'] at h hc2
              obtain rfl : c2 = 0 := hc2
              injection h with h; injection h with h1 h2
              obtain ⟨i, m, e1, e2, e3, _⟩ := getD_to (tget_getD hg).1
              obtain ⟨i', m', e1', e2', e3', _⟩ := getD_to (tget_getD hg2).1
              exact ⟨i, i' + 2 + m', e1, h2.symm.trans e2', by omega, e3', by rw [← h1]⟩
            · cases h
          · cases h
        · split at h
          · rename_i hc
            obtain ⟨⟨n, f, c⟩, hg⟩ : ∃ g, getF s a (wid (kindOf id)) = g := ⟨_, rfl⟩
            rw [hg] at h hc
            obtain rfl : c = 0 := hc
            injection h with h; injection h with h1 h2
            obtain ⟨i, k, e1, e2, e3, e4, e5, _⟩ := getF_to hg
            exact ⟨i, i + k, e1, h2.symm.trans e3, by omega, e5, by rw [← h1]⟩
          · cases h
end Go.Proofs.YtedapgeabpadaaaDoor

namespace Go.Proofs.YtedapgeabpadaaaDoor
set_option linter.unusedVariables false
open Go.RowKit Pl

theorem to_below {P : Program} {f : Nat} {args : Array Value} {w : World} {v : Ending} (h : Calls P f args w fun e w' => e = v ∧ w = w') : Calls P f args w fun e w' => e = v ∧ Below w.heap.size w w' :=
  h.mono fun _ _ h => ⟨h.1, h.2 ▸ Below.refl _ _⟩
/-- What a reader has behind a value, and the property. -/
def RdPost (w w' : World) (R Q : Nat) (s : ByteArray) (id : Int) : Option (Pp × Int) → Prop
  | some (p, tu) => Blk w' R (rdA s tu false) 172 ∧ Blk w' Q (ppA p) 123 ∧ Mod (fun k => k = R ∨ k = Q) w w'
  | none => (∃ a, Blk w' R (rdA s a true) 172) ∧ (∃ p, Blk w' Q (ppA p) 123) ∧ Mod (fun k => k = R ∨ k = Q) w w'
theorem closure_any (s : ByteArray) (a k : Int) (B : Nat) (w : World) (hs : s.size ≤ 140737488351232) (h0 : -9223372036854775808 ≤ a) (h1 : a ≤ 9223372036854775807) (hB : w.cell? ⟨B, 0, none⟩ = some (.int .i64 k)) :
    Calls Tryd.prog 114 #[.string s, .int .i64 a, .pointer (some ⟨B, 0, none⟩)] w fun e w' => e = .returned (.tuple #[.int .i64 (getF s a (wid k)).1, .int .i64 (getF s a (wid k)).2.1, .int .u8 (getF s a (wid k)).2.2]) ∧ Below w.heap.size w w' := by
  have C := Lib.hid (getfixed_all s a (wid k) w hs h0 h1)
  clear h0 h1 hs
  go_enter Tryd.func114, Tryd.ntmps114
  go_wp2_with fail
  refine (width_any k _).mono ?_
  rintro e w1 ⟨rfl, rfl⟩
  go_wp2_with fail
  refine C.out.mono ?_
  rintro e w1 ⟨rfl, rfl⟩
  go_wp2
  go_ret3
  exact ⟨rfl, Below.refl _ _⟩

set_option maxRecDepth 100000 in
set_option maxHeartbeats 4000000 in
theorem prvalue_any (R Q : Nat) (s : ByteArray) (a id : Int) (w : World) (hs : s.size ≤ 140737488351232) (h0 : -9223372036854775808 ≤ a) (h1 : a ≤ 9223372036854775807) (hR : Blk w R (rdA s a false) 172) (hQ : Blk w Q (ppA ⟨id, 0, noS, noS⟩) 123) (hRQ : R ≠ Q) (hNR : NoTab R) (hNQ : NoTab Q) (hT : Tabs w) :
    Calls Tryd.prog 100 #[.pointer (some ⟨R, 0, none⟩), .pointer (some ⟨Q, 0, none⟩)] w fun e w' => e = .returned (.tuple #[]) ∧ RdPost w w' R Q s id (rdv s id a) := by
  obtain ⟨k, hk⟩ : ∃ k, kindOf id = k := ⟨_, rfl⟩
  have CK : ∀ X : World, Calls Tryd.prog 93 #[.int .i64 id] X fun e w' => e = .returned (.int .i64 k) ∧ X = w' := fun X => by rw [← hk]; exact kind_any id X
  have hq0 := hQ.cell 0
  simp only [ppA, List.getElem?_toArray, List.getElem?_cons_zero] at hq0
  have b0 : Below w.heap.size w (w.alloc (.cells #[.int .i64 k] 164)) := (Below.refl _ _).alloc (Nat.le_refl _) _
  have hK : Blk (w.alloc (.cells #[.int .i64 k] 164)) w.heap.size #[.int .i64 k] 164 := Blk.new _ _ _
  have hk0 := hK.cell 0
  simp only [List.getElem?_toArray, List.getElem?_cons_zero] at hk0
  obtain ⟨W, hW⟩ : ∃ W, w.alloc (.cells #[.int .i64 k] 164) = W := ⟨_, rfl⟩
  rw [hW] at b0 hK hk0
  have HR := Lib.hid (hR.of_below b0)
  have HQ := Lib.hid (hQ.of_below b0)
  have HK := Lib.hid hK
  have B0 := Lib.hid b0
  have HT := Lib.hid (hT.below b0)
  have CK := Lib.hid CK
  have HKD := Lib.hid hk
  have HW := Lib.hid hW
  have HS := Lib.hid hs
  have HNR := Lib.hid hNR
  have HNQ := Lib.hid hNQ
  have HA := Lib.hid (And.intro h0 h1)
  clear hR hQ hT hNR hNQ hK b0 hk hs h0 h1 hW
  by_cases h4 : k = 4
  · subst h4
    obtain ⟨⟨n, tu, c⟩, hg⟩ : ∃ g, getV s a = g := ⟨_, rfl⟩
    have CF := number_any 31 #[] R s a n tu c W HR.out (enters_of Tryd.func31 (by kernel_rfl) rfl) (fun X hb => by
      have h := to_below (get_all s a X HS.out HA.out.1 HA.out.2)
      rw [hg] at h
      exact h)
    have HG := Lib.hid hg
    by_cases hc : c = 0
    · subst hc
      rw [if_pos rfl, if_pos rfl, show ((0 : Int) != 0) = false from rfl] at CF
      have CF := Lib.hid CF
      have HV : Hid (rdv s id a = some (⟨id, n, noS, noS⟩, tu)) := Lib.hid (by unfold rdv; simp [HKD.out, HG.out])
      clear hg
      go_enter Tryd.func100, Tryd.ntmps100
      go_wp2_with fail
      refine (CK.out w).mono ?_
      rintro e w1 ⟨rfl, rfl⟩
      go_wp2_with fail
      rw [HW.out]
      refine CF.out.mono ?_
      rintro e w2 ⟨rfl, r2, m2⟩
      have Q2 := Lib.hid (HQ.out.mod m2 (fun e => hRQ e.symm))
      have q2 := Q2.out.cell 1
      simp only [ppA, List.getElem?_toArray, List.getElem?_cons_zero, List.getElem?_cons_succ] at q2
      have k2 := Q2.out.frozen 1
      have R2 := Lib.hid r2
      have M2 := Lib.hid ((Mod.of_below (S := fun k => k = R ∨ k = Q) B0.out).then m2 (fun _ _ h => .inl h))
      clear r2 m2
      go_wp2
      go_end0
      exact ⟨rfl, by rw [HV.out]; exact ⟨R2.out.other hRQ _ _, Q2.out.set _ _, M2.out.setCell (.inl (.inr rfl)) _⟩⟩
    · have e1 : (c != 0) = true := by rw [bne, beq_eq_false_iff_ne.2 hc]; rfl
      rw [if_neg hc, if_neg hc, e1] at CF
      have CF := Lib.hid CF
      have HV : Hid (rdv s id a = none) := Lib.hid (by unfold rdv; simp [HKD.out, HG.out, hc])
      clear hg e1
      go_enter Tryd.func100, Tryd.ntmps100
      go_wp2_with fail
      refine (CK.out w).mono ?_
      rintro e w1 ⟨rfl, rfl⟩
      go_wp2_with fail
      rw [HW.out]
      refine CF.out.mono ?_
      rintro e w2 ⟨rfl, r2, m2⟩
      have Q2 := Lib.hid (HQ.out.mod m2 (fun e => hRQ e.symm))
      have q2 := Q2.out.cell 1
      simp only [ppA, List.getElem?_toArray, List.getElem?_cons_zero, List.getElem?_cons_succ] at q2
      have k2 := Q2.out.frozen 1
      have R2 := Lib.hid r2
      have M2 := Lib.hid ((Mod.of_below (S := fun k => k = R ∨ k = Q) B0.out).then m2 (fun _ _ h => .inl h))
      clear r2 m2
      go_wp2
      go_end0
      exact ⟨rfl, by rw [HV.out]; exact ⟨⟨_, R2.out.other hRQ _ _⟩, ⟨⟨id, 0, noS, noS⟩, Q2.out.set _ _⟩, M2.out.setCell (.inl (.inr rfl)) _⟩⟩
  · by_cases h5 : k = 5
    · subst h5
      obtain ⟨⟨n, tu, c⟩, hg⟩ : ∃ g, getD s a = g := ⟨_, rfl⟩
      have CF := string_any 98 #[] R s n a tu c W HR.out (enters_of Tryd.func98 (by kernel_rfl) rfl) (fun X hb => by
        have h := to_below (getdata_all s a X HS.out HA.out.1 HA.out.2)
        rw [hg] at h
        exact h)
      have HG := Lib.hid hg
      by_cases hc : c = 0
      · subst hc
        rw [if_pos rfl, if_pos rfl, show ((0 : Int) != 0) = false from rfl] at CF
        have CF := Lib.hid CF
        have HV : Hid (rdv s id a = some (⟨id, 0, n, noS⟩, tu)) := Lib.hid (by unfold rdv; simp [HKD.out, HG.out])
        clear hg
        go_enter Tryd.func100, Tryd.ntmps100
        go_wp2_with fail
        refine (CK.out w).mono ?_
        rintro e w1 ⟨rfl, rfl⟩
        go_wp2_with fail
        rw [HW.out]
        refine CF.out.mono ?_
        rintro e w2 ⟨rfl, r2, m2⟩
        have Q2 := Lib.hid (HQ.out.mod m2 (fun e => hRQ e.symm))
        have q2 := Q2.out.cell 2
        simp only [ppA, List.getElem?_toArray, List.getElem?_cons_zero, List.getElem?_cons_succ] at q2
        have k2 := Q2.out.frozen 2
        have R2 := Lib.hid r2
        have M2 := Lib.hid ((Mod.of_below (S := fun k => k = R ∨ k = Q) B0.out).then m2 (fun _ _ h => .inl h))
        clear r2 m2
        go_wp2
        go_end0
        exact ⟨rfl, by rw [HV.out]; exact ⟨R2.out.other hRQ _ _, Q2.out.set _ _, M2.out.setCell (.inl (.inr rfl)) _⟩⟩
      · have e1 : (c != 0) = true := by rw [bne, beq_eq_false_iff_ne.2 hc]; rfl
        rw [if_neg hc, if_neg hc, e1] at CF
        have CF := Lib.hid CF
        have HV : Hid (rdv s id a = none) := Lib.hid (by unfold rdv; simp [HKD.out, HG.out, hc])
        clear hg e1
        go_enter Tryd.func100, Tryd.ntmps100
        go_wp2_with fail
        refine (CK.out w).mono ?_
        rintro e w1 ⟨rfl, rfl⟩
        go_wp2_with fail
        rw [HW.out]
        refine CF.out.mono ?_
        rintro e w2 ⟨rfl, r2, m2⟩
        have Q2 := Lib.hid (HQ.out.mod m2 (fun e => hRQ e.symm))
        have q2 := Q2.out.cell 2
        simp only [ppA, List.getElem?_toArray, List.getElem?_cons_zero, List.getElem?_cons_succ] at q2
        have k2 := Q2.out.frozen 2
        have R2 := Lib.hid r2
        have M2 := Lib.hid ((Mod.of_below (S := fun k => k = R ∨ k = Q) B0.out).then m2 (fun _ _ h => .inl h))
        clear r2 m2
        go_wp2
        go_end0
        exact ⟨rfl, by rw [HV.out]; exact ⟨⟨_, R2.out.other hRQ _ _⟩, ⟨⟨id, 0, noS, noS⟩, Q2.out.set _ _⟩, M2.out.setCell (.inl (.inr rfl)) _⟩⟩
    · by_cases h6 : k = 6
      · subst h6
        obtain ⟨⟨n, tu, c⟩, hg⟩ : ∃ g, tget s a = g := ⟨_, rfl⟩
        have CF := string_any 82 #[] R s n a tu c W HR.out (enters_of Tryd.func82 (by kernel_rfl) rfl) (fun X hb => by
          have h := (tget_any s a X HS.out HA.out.1 HA.out.2 (HT.out.below hb))
          rw [hg] at h
          exact h)
        have HG := Lib.hid hg
        by_cases hc : c = 0
        · subst hc
          rw [if_pos rfl, if_pos rfl, show ((0 : Int) != 0) = false from rfl] at CF
          have CF := Lib.hid CF
          have HV : Hid (rdv s id a = some (⟨id, 0, n, noS⟩, tu)) := Lib.hid (by unfold rdv; simp [HKD.out, HG.out])
          clear hg
          go_enter Tryd.func100, Tryd.ntmps100
          go_wp2_with fail
          refine (CK.out w).mono ?_
          rintro e w1 ⟨rfl, rfl⟩
          go_wp2_with fail
          rw [HW.out]
          refine CF.out.mono ?_
          rintro e w2 ⟨rfl, r2, m2⟩
          have Q2 := Lib.hid (HQ.out.mod m2 (fun e => hRQ e.symm))
          have q2 := Q2.out.cell 2
          simp only [ppA, List.getElem?_toArray, List.getElem?_cons_zero, List.getElem?_cons_succ] at q2
          have k2 := Q2.out.frozen 2
          have R2 := Lib.hid r2
          have M2 := Lib.hid ((Mod.of_below (S := fun k => k = R ∨ k = Q) B0.out).then m2 (fun _ _ h => .inl h))
          clear r2 m2
          go_wp2
          go_end0
          exact ⟨rfl, by rw [HV.out]; exact ⟨R2.out.other hRQ _ _, Q2.out.set _ _, M2.out.setCell (.inl (.inr rfl)) _⟩⟩
        · have e1 : (c != 0) = true := by rw [bne, beq_eq_false_iff_ne.2 hc]; rfl
          rw [if_neg hc, if_neg hc, e1] at CF
          have CF := Lib.hid CF
          have HV : Hid (rdv s id a = none) := Lib.hid (by unfold rdv; simp [HKD.out, HG.out, hc])
          clear hg e1
          go_enter Tryd.func100, Tryd.ntmps100
          go_wp2_with fail
          refine (CK.out w).mono ?_
          rintro e w1 ⟨rfl, rfl⟩
          go_wp2_with fail
          rw [HW.out]
          refine CF.out.mono ?_
          rintro e w2 ⟨rfl, r2, m2⟩
          have Q2 := Lib.hid (HQ.out.mod m2 (fun e => hRQ e.symm))
          have q2 := Q2.out.cell 2
          simp only [ppA, List.getElem?_toArray, List.getElem?_cons_zero, List.getElem?_cons_succ] at q2
          have k2 := Q2.out.frozen 2
          have R2 := Lib.hid r2
          have M2 := Lib.hid ((Mod.of_below (S := fun k => k = R ∨ k = Q) B0.out).then m2 (fun _ _ h => .inl h))
          clear r2 m2
          go_wp2
          go_end0
          exact ⟨rfl, by rw [HV.out]; exact ⟨⟨_, R2.out.other hRQ _ _⟩, ⟨⟨id, 0, noS, noS⟩, Q2.out.set _ _⟩, M2.out.setCell (.inl (.inr rfl)) _⟩⟩
      · by_cases h7 : k = 7
        · subst h7
          obtain ⟨⟨n, tu, c⟩, hg⟩ : ∃ g, tget s a = g := ⟨_, rfl⟩
          have CF := string_any 82 #[] R s n a tu c W HR.out (enters_of Tryd.func82 (by kernel_rfl) rfl) (fun X hb => by
            have h := tget_any s a X HS.out HA.out.1 HA.out.2 (HT.out.below hb)
            rw [hg] at h
            exact h)
          have HG := Lib.hid hg
          by_cases hc : c = 0
          · subst hc
            have HTO := Lib.hid (tget_to HG.out HS.out)
            obtain ⟨⟨n2, to2, c2⟩, hg2⟩ : ∃ g, tget s tu = g := ⟨_, rfl⟩
            have HG2 := Lib.hid hg2
            rw [if_pos rfl, if_pos rfl, show ((0 : Int) != 0) = false from rfl] at CF
            have CF := Lib.hid CF
            clear hg hg2
            by_cases hc2 : c2 = 0
            · subst hc2
              have HV : Hid (rdv s id a = some (⟨id, 0, n, n2⟩, to2)) := Lib.hid (by unfold rdv; simp [HKD.out, HG.out, HG2.out])
              go_enter Tryd.func100, Tryd.ntmps100
              go_wp2_with fail
              refine (CK.out w).mono ?_
              rintro e w1 ⟨rfl, rfl⟩
              go_wp2_with fail
              rw [HW.out]
              refine CF.out.mono ?_
              rintro e w2 ⟨rfl, r2, m2⟩
              have Q2 := Lib.hid (HQ.out.mod m2 (fun e => hRQ e.symm))
              have q2 := Q2.out.cell 2
              simp only [ppA, List.getElem?_toArray, List.getElem?_cons_zero, List.getElem?_cons_succ] at q2
              have k2 := Q2.out.frozen 2
              have R2 := Lib.hid r2
              have M2 := Lib.hid ((Mod.of_below (S := fun k => k = R ∨ k = Q) B0.out).then m2 (fun _ _ h => .inl h))
              have HT2 := Lib.hid (tabs_mod HT.out m2 HNR.out)
              have R3 := Lib.hid (R2.out.other (R' := Q) hRQ 2 (.string n))
              have Q3 : Hid (Blk _ Q (ppA ⟨id, 0, n, noS⟩) 123) := Lib.hid (Q2.out.set 2 (.string n))
              have M3 := Lib.hid (M2.out.setCell (p := ⟨Q, 2, none⟩) (.inl (.inr rfl)) (.string n))
              have HT3 := Lib.hid (tabs_set HT2.out (p := ⟨Q, 2, none⟩) HNQ.out (.string n))
              have CG := string_any 82 #[] R s n2 tu to2 0 _ R3.out (enters_of Tryd.func82 (by kernel_rfl) rfl) (fun X hb => by
                have h := (tget_any s tu X HS.out HTO.out.1 HTO.out.2 ((HT3.out).below hb))
                rw [HG2.out] at h
                exact h)
              rw [if_pos rfl, if_pos rfl, show ((0 : Int) != 0) = false from rfl] at CG
              have CG := Lib.hid CG
              clear r2 m2
              go_wp2_with fail
              refine CG.out.mono ?_
              rintro e w4 ⟨rfl, r4, m4⟩
              have Q4 := Lib.hid (Q3.out.mod m4 (fun e => hRQ e.symm))
              have q4 := Q4.out.cell 3
              simp only [ppA, List.getElem?_toArray, List.getElem?_cons_zero, List.getElem?_cons_succ] at q4
              have k4 := Q4.out.frozen 3
              have R4 := Lib.hid r4
              have M4 := Lib.hid (M3.out.then m4 (fun _ _ h => .inl h))
              clear r4 m4
              go_wp2
              go_end0
              exact ⟨rfl, by rw [HV.out]; exact ⟨R4.out.other hRQ _ _, Q4.out.set _ _, M4.out.setCell (.inl (.inr rfl)) _⟩⟩
            · have HV : Hid (rdv s id a = none) := Lib.hid (by unfold rdv; simp [HKD.out, HG.out, HG2.out, hc2])
              go_enter Tryd.func100, Tryd.ntmps100
              go_wp2_with fail
              refine (CK.out w).mono ?_
              rintro e w1 ⟨rfl, rfl⟩
              go_wp2_with fail
              rw [HW.out]
              refine CF.out.mono ?_
              rintro e w2 ⟨rfl, r2, m2⟩
              have Q2 := Lib.hid (HQ.out.mod m2 (fun e => hRQ e.symm))
              have q2 := Q2.out.cell 2
              simp only [ppA, List.getElem?_toArray, List.getElem?_cons_zero, List.getElem?_cons_succ] at q2
              have k2 := Q2.out.frozen 2
              have R2 := Lib.hid r2
              have M2 := Lib.hid ((Mod.of_below (S := fun k => k = R ∨ k = Q) B0.out).then m2 (fun _ _ h => .inl h))
              have HT2 := Lib.hid (tabs_mod HT.out m2 HNR.out)
              have R3 := Lib.hid (R2.out.other (R' := Q) hRQ 2 (.string n))
              have Q3 : Hid (Blk _ Q (ppA ⟨id, 0, n, noS⟩) 123) := Lib.hid (Q2.out.set 2 (.string n))
              have M3 := Lib.hid (M2.out.setCell (p := ⟨Q, 2, none⟩) (.inl (.inr rfl)) (.string n))
              have HT3 := Lib.hid (tabs_set HT2.out (p := ⟨Q, 2, none⟩) HNQ.out (.string n))
              have CG := string_any 82 #[] R s n2 tu to2 c2 _ R3.out (enters_of Tryd.func82 (by kernel_rfl) rfl) (fun X hb => by
                have h := (tget_any s tu X HS.out HTO.out.1 HTO.out.2 ((HT3.out).below hb))
                rw [HG2.out] at h
                exact h)
              rw [if_neg hc2, if_neg hc2, show (c2 != 0) = true from by rw [bne, beq_eq_false_iff_ne.2 hc2]; rfl] at CG
              have CG := Lib.hid CG
              clear r2 m2
              go_wp2_with fail
              refine CG.out.mono ?_
              rintro e w4 ⟨rfl, r4, m4⟩
              have Q4 := Lib.hid (Q3.out.mod m4 (fun e => hRQ e.symm))
              have q4 := Q4.out.cell 3
              simp only [ppA, List.getElem?_toArray, List.getElem?_cons_zero, List.getElem?_cons_succ] at q4
              have k4 := Q4.out.frozen 3
              have R4 := Lib.hid r4
              have M4 := Lib.hid (M3.out.then m4 (fun _ _ h => .inl h))
              clear r4 m4
              go_wp2
              go_end0
              exact ⟨rfl, by rw [HV.out]; exact ⟨⟨_, R4.out.other hRQ _ _⟩, ⟨⟨id, 0, n, noS⟩, Q4.out.set _ _⟩, M4.out.setCell (.inl (.inr rfl)) _⟩⟩
          · have e1 : (c != 0) = true := by rw [bne, beq_eq_false_iff_ne.2 hc]; rfl
            rw [if_neg hc, if_neg hc, e1] at CF
            have CF := Lib.hid CF
            have HV : Hid (rdv s id a = none) := Lib.hid (by unfold rdv; simp [HKD.out, HG.out, hc])
            clear hg e1
            go_enter Tryd.func100, Tryd.ntmps100
            go_wp2_with fail
            refine (CK.out w).mono ?_
            rintro e w1 ⟨rfl, rfl⟩
            go_wp2_with fail
            rw [HW.out]
            refine CF.out.mono ?_
            rintro e w2 ⟨rfl, r2, m2⟩
            have Q2 := Lib.hid (HQ.out.mod m2 (fun e => hRQ e.symm))
            have q2 := Q2.out.cell 2
            simp only [ppA, List.getElem?_toArray, List.getElem?_cons_zero, List.getElem?_cons_succ] at q2
            have k2 := Q2.out.frozen 2
            have R2 := Lib.hid r2
            have M2 := Lib.hid ((Mod.of_below (S := fun k => k = R ∨ k = Q) B0.out).then m2 (fun _ _ h => .inl h))
            have HT2 := Lib.hid (tabs_mod HT.out m2 HNR.out)
            have R3 := Lib.hid (R2.out.other (R' := Q) hRQ 2 (.string noS))
            have Q3 : Hid (Blk _ Q (ppA ⟨id, 0, noS, noS⟩) 123) := Lib.hid (Q2.out.set 2 (.string noS))
            have M3 := Lib.hid (M2.out.setCell (p := ⟨Q, 2, none⟩) (.inl (.inr rfl)) (.string noS))
            have HT3 := Lib.hid (tabs_set HT2.out (p := ⟨Q, 2, none⟩) HNQ.out (.string noS))
            have CG := string_bad 82 #[] R s (tget s a).1 a (tget s a).2.1 (tget s a).2.2 _ R3.out (enters_of Tryd.func82 (by kernel_rfl) rfl) (fun X hb => tget_any s a X HS.out HA.out.1 HA.out.2 ((HT3.out).below hb))

            have CG := Lib.hid CG
            clear r2 m2
            go_wp2_with fail
            refine CG.out.mono ?_
            rintro e w4 ⟨rfl, r4, m4⟩
            have Q4 := Lib.hid (Q3.out.mod m4 (fun e => hRQ e.symm))
            have q4 := Q4.out.cell 3
            simp only [ppA, List.getElem?_toArray, List.getElem?_cons_zero, List.getElem?_cons_succ] at q4
            have k4 := Q4.out.frozen 3
            have R4 := Lib.hid r4
            have M4 := Lib.hid (M3.out.then m4 (fun _ _ h => .inl h))
            clear r4 m4
            go_wp2
            go_end0
            exact ⟨rfl, by rw [HV.out]; exact ⟨⟨_, R4.out.other hRQ _ _⟩, ⟨⟨id, 0, noS, noS⟩, Q4.out.set _ _⟩, M4.out.setCell (.inl (.inr rfl)) _⟩⟩
        · obtain ⟨⟨n, tu, c⟩, hg⟩ : ∃ g, getF s a (wid k) = g := ⟨_, rfl⟩
          have CF := number_any 114 #[.pointer (some ⟨w.heap.size, 0, none⟩)] R s a n tu c W HR.out (enters_of Tryd.func114 (by kernel_rfl) rfl) (fun X hb => by
            have h := closure_any s a k w.heap.size X HS.out HA.out.1 HA.out.2 ((HK.out.of_below hb).cell 0)
            rw [hg] at h
            exact h)
          have HG := Lib.hid hg
          have HK' : Hid (¬ k = 4 ∧ ¬ k = 5 ∧ ¬ k = 6 ∧ ¬ k = 7) := Lib.hid ⟨h4, h5, h6, h7⟩
          have e4 : (k == 4) = false := beq_eq_false_iff_ne.2 h4
          have e5 : (k == 5) = false := beq_eq_false_iff_ne.2 h5
          have e6 : (k == 6) = false := beq_eq_false_iff_ne.2 h6
          have e7 : (k == 7) = false := beq_eq_false_iff_ne.2 h7
          clear h4 h5 h6 h7
          by_cases hc : c = 0
          · subst hc
            rw [if_pos rfl, if_pos rfl, show ((0 : Int) != 0) = false from rfl] at CF
            have CF := Lib.hid CF
            have HV : Hid (rdv s id a = some (⟨id, n, noS, noS⟩, tu)) := Lib.hid (by obtain ⟨a4, a5, a6, a7⟩ := HK'.out; unfold rdv; rw [HKD.out, if_neg a4, if_neg a5, if_neg a6, if_neg a7, HG.out]; rfl)
            clear hg
            go_enter Tryd.func100, Tryd.ntmps100
            go_wp2_with fail
            refine (CK.out w).mono ?_
            rintro e w1 ⟨rfl, rfl⟩
            go_wp2_with fail
            rw [HW.out]
            refine CF.out.mono ?_
            rintro e w2 ⟨rfl, r2, m2⟩
            have Q2 := Lib.hid (HQ.out.mod m2 (fun e => hRQ e.symm))
            have q2 := Q2.out.cell 1
            simp only [ppA, List.getElem?_toArray, List.getElem?_cons_zero, List.getElem?_cons_succ] at q2
            have k2 := Q2.out.frozen 1
            have R2 := Lib.hid r2
            have M2 := Lib.hid ((Mod.of_below (S := fun k => k = R ∨ k = Q) B0.out).then m2 (fun _ _ h => .inl h))
            clear r2 m2
            go_wp2
            go_end0
            exact ⟨rfl, by rw [HV.out]; exact ⟨R2.out.other hRQ _ _, Q2.out.set _ _, M2.out.setCell (.inl (.inr rfl)) _⟩⟩
          · have e1 : (c != 0) = true := by rw [bne, beq_eq_false_iff_ne.2 hc]; rfl
            rw [if_neg hc, if_neg hc, e1] at CF
            have CF := Lib.hid CF
            have HV : Hid (rdv s id a = none) := Lib.hid (by obtain ⟨a4, a5, a6, a7⟩ := HK'.out; unfold rdv; rw [HKD.out, if_neg a4, if_neg a5, if_neg a6, if_neg a7, HG.out]; exact if_neg hc)
            clear hg e1
            go_enter Tryd.func100, Tryd.ntmps100
            go_wp2_with fail
            refine (CK.out w).mono ?_
            rintro e w1 ⟨rfl, rfl⟩
            go_wp2_with fail
            rw [HW.out]
            refine CF.out.mono ?_
            rintro e w2 ⟨rfl, r2, m2⟩
            have Q2 := Lib.hid (HQ.out.mod m2 (fun e => hRQ e.symm))
            have q2 := Q2.out.cell 1
            simp only [ppA, List.getElem?_toArray, List.getElem?_cons_zero, List.getElem?_cons_succ] at q2
            have k2 := Q2.out.frozen 1
            have R2 := Lib.hid r2
            have M2 := Lib.hid ((Mod.of_below (S := fun k => k = R ∨ k = Q) B0.out).then m2 (fun _ _ h => .inl h))
            clear r2 m2
            go_wp2
            go_end0
            exact ⟨rfl, by rw [HV.out]; exact ⟨⟨_, R2.out.other hRQ _ _⟩, ⟨⟨id, 0, noS, noS⟩, Q2.out.set _ _⟩, M2.out.setCell (.inl (.inr rfl)) _⟩⟩
end Go.Proofs.YtedapgeabpadaaaDoor

namespace Go.Proofs.YtedapgeabpadaaaDoor
set_option linter.unusedVariables false
open Go.RowKit Pl

/-- How many elements a slice has. -/
def lenOf : Value → Nat | .slice _ n _ => n | _ => 0
def GetPost (w w' : World) (e : Ending) (G : List Pp × Int × Int) : Prop := ∃ v, e = .returned (.tuple #[v, .int .i64 G.2.1, .int .u8 G.2.2]) ∧ w'.ownsRow w.heap.size 123 4 v G.1.length (flat G.1) ∧ Below w.heap.size w w'
theorem own_row {w : World} {base n cap : Nat} {e : TypeId} {A : Option Addr} {L : List Pp} (h : w.ownsRow base e 4 (.slice A n cap) n (flat L)) (hm : n = L.length) : PRow w A L := by
  obtain ⟨A', cap', he, _, r⟩ := own_prow h hm
  injection he with h1
  subst h1
  exact r
set_option maxRecDepth 100000 in
set_option maxHeartbeats 4000000 in
theorem pget_any (s : ByteArray) (at_ : Int) (w : World) (hs : s.size ≤ 140737488351232) (h0 : -9223372036854775808 ≤ at_) (h1 : at_ ≤ 9223372036854775807) (hT : Tabs w) :
    Calls Tryd.prog 80 #[.string s, .int .i64 at_] w fun e w' => GetPost w w' e (getP s at_) := by
  obtain ⟨⟨n, from_, c⟩, hg⟩ : ∃ g, getV s at_ = g := ⟨_, rfl⟩
  have CG := get_all s at_ w hs h0 h1
  rw [hg] at CG
  have CG := Lib.hid CG
  have HG := Lib.hid hg
  clear hg h0 h1
  by_cases hc : c = 0
  · subst hc
    obtain ⟨i, j, rfl, rfl, hij, hj, _, hn0, hn1⟩ := getV_to HG.out
    obtain ⟨m, rfl⟩ := Int.eq_ofNat_of_zero_le hn0
    by_cases hlt : (s.size : Int) - j < m
    · have HV : Hid (getP s i = ([], 0, 242)) := Lib.hid (getP_none HG.out hlt)
      clear hij
      go_enter Tryd.func80, Tryd.ntmps80
      go_wp2_with fail
      refine CG.out.mono ?_
      rintro e w1 ⟨rfl, rfl⟩
      go_wp2
      go_ret3
      rw [HV.out]
      exact ⟨_, rfl, World.ownsRow_nil _ _ _ _, Below.refl _ _⟩
    · have hm : j + m ≤ s.size := by omega
      obtain ⟨sub, hsub⟩ : ∃ sub, s.extract j (j + m) = sub := ⟨_, rfl⟩
      have hss : sub.size = m := by rw [← hsub]; simp; omega
      have HSUB := Lib.hid hsub
      have hd0 : decide ((s.size : Int) - j < m) = false := by simpa using hlt
      go_enter Tryd.func80, Tryd.ntmps80
      go_wp2_with fail
      refine CG.out.mono ?_
      rintro e w1 ⟨rfl, rfl⟩
      have b0 : Below w.heap.size w (w.alloc (.cells (rdA sub 0 false) 172)) := (Below.refl _ _).alloc (Nat.le_refl _) _
      have hR0 : Blk (w.alloc (.cells (rdA sub 0 false) 172)) w.heap.size (rdA sub 0 false) 172 := Blk.new _ _ _
      have HB0 := Lib.hid b0
      have HR0 := Lib.hid hR0
      have HTT := Lib.hid hT
      clear b0 hR0 hT hij
      obtain ⟨i0, hi, hz0, hz1, hz2⟩ := info_parts info_p1
      go_wp2
      go_loopw [11] (fun v wr => ∃ (L : List Pp) (k f : Nat), Hid (f + L.length = 66) ∧ L.length ≤ 64 ∧ k ≤ m ∧ Hid (pgs sub f L k = pgs sub 66 [] 0) ∧ Hid (wr.ownsRow w.heap.size 123 4 v L.length (flat L)) ∧ Hid (Blk wr w.heap.size (rdA sub k false) 172) ∧ Hid (Below w.heap.size w wr)) (fun v _ => 66 - lenOf v)
      case atStart => exact ⟨[], 0, 66, Lib.hid rfl, by decide, by omega, Lib.hid rfl, Lib.hid (World.ownsRow_nil _ _ _ _), HR0, HB0⟩
      case round =>
        obtain ⟨L, k, f, hf, hL, hk, hpg, hown, hblk, hb⟩ := hrel
        obtain ⟨A, cap, rfl, hcap, hrow⟩ := own_prow hown.out rfl
        have HROW := Lib.hid hrow
        have r0 := hblk.out.cell 0
        have r1 := hblk.out.cell 1
        simp only [rdA, List.getElem?_toArray, List.getElem?_cons_zero, List.getElem?_cons_succ] at r0 r1
        clear hrow hsub
        have HF := hf
        obtain ⟨f', rfl⟩ : ∃ f', f = f' + 1 := ⟨f - 1, by have := hf.out; omega⟩
        have HNE := own_ne hown.out hblk.out (by decide)
        by_cases hkm : k < m
        · have hkB : decide (k < m) = true := by simpa using hkm
          have HK := Lib.hid (show ¬ (sub.size : Int) ≤ k by omega)
          by_cases h64 : 64 ≤ L.length
          · have h64I : (64 : Int) ≤ (L.length : Int) := by omega
            have HV : Hid (getP s i = ([], 0, 149)) := Lib.hid (getP_bad HG.out hm (by rw [HSUB.out, ← hpg.out]; exact pgs_full (by have := HK.out; omega) h64) (by decide))
            go_wp2_with fail
            go_quiet (fail)
            go_wp2
            go_ret3
            rw [HV.out]
            exact ⟨_, rfl, World.ownsRow_nil _ _ _ _, hb.out.os, hb.out.tape, hb.out.output, hb.out.size, hb.out.block⟩
          · have h64I : ¬ (64 : Int) ≤ (L.length : Int) := by omega
            have H64 := Lib.hid h64
            obtain ⟨⟨id, nx, d⟩, hg2⟩ : ∃ g, getV sub k = g := ⟨_, rfl⟩
            have CNA : ∀ X : World, Blk X w.heap.size (rdA sub k false) 172 → _ := fun X hX => number_any 31 #[] w.heap.size sub k id nx d X hX (enters_of Tryd.func31 (by kernel_rfl) rfl) (fun Y hY => by
              have h := to_below (get_all sub k Y (by omega) (by omega) (by omega))
              rw [hg2] at h
              exact h)
            have HG2 := Lib.hid hg2
            have CNA := Lib.hid CNA
            clear hg2
            go_wp2_with fail
            go_quiet (fail)
            have xb : Blk (wr.drewN nq) w.heap.size (rdA sub k false) 172 := hblk.out
            have xo : (wr.drewN nq).ownsRow w.heap.size 123 4 (.slice A L.length cap) L.length (flat L) := hown.out
            have xw : Below w.heap.size w (wr.drewN nq) := ⟨hb.out.os, hb.out.tape, hb.out.output, hb.out.size, hb.out.block⟩
            obtain ⟨X, hX⟩ : ∃ X, wr.drewN nq = X := ⟨_, rfl⟩
            rw [hX] at xb xo xw ⊢
            have XB := Lib.hid xb
            have XO := Lib.hid xo
            have XW := Lib.hid xw
            have CN := CNA.out X xb
            clear hX xb xo xw r0 r1
            by_cases hd : d = 0
            · subst hd
              rw [if_pos rfl, if_pos rfl, show ((0 : Int) != 0) = false from rfl] at CN
              have CN := Lib.hid CN
              go_wp2_with fail
              refine CN.out.mono ?_
              rintro e w2 ⟨rfl, b2, m2⟩
              have HW2 := Lib.hid (XW.out.trans (m2.below XW.out.size (fun k e => by omega)))
              have HO2 := Lib.hid (own_mod XO.out m2 (fun g e c => HNE (e.trans (by rw [c]))))
              have HQ0 := Lib.hid (Blk.new w2 (ppA ⟨id, 0, noS, noS⟩) 123)
              have HR2 := Lib.hid (b2.alloc (.cells (ppA ⟨id, 0, noS, noS⟩) 123))
              have HO3 := Lib.hid (HO2.out.alloc (.cells (ppA ⟨id, 0, noS, noS⟩) 123))
              have HW3 := Lib.hid (HW2.out.alloc HW2.out.size (.cells (ppA ⟨id, 0, noS, noS⟩) 123))
              have hlt2 := b2.lt
              have hY0 : w2.alloc (.cells (ppA ⟨id, 0, noS, noS⟩) 123) = w2.alloc (.cells #[.int .i64 id, .int .i64 0, .string ⟨#[]⟩, .string ⟨#[]⟩] 123) := rfl
              obtain ⟨Y, hY⟩ : ∃ Y, w2.alloc (.cells (ppA ⟨id, 0, noS, noS⟩) 123) = Y := ⟨_, rfl⟩
              rw [hY] at HQ0 HR2 HO3 HW3 hY0
              have HY := Lib.hid hY0.symm
              have r2 := b2.cell 2
              have q0 := HQ0.out.cell 0
              simp only [rdA, ppA, List.getElem?_toArray, List.getElem?_cons_zero, List.getElem?_cons_succ] at r2 q0
              obtain ⟨i', j', ei', rfl, hij', hj', _, hn0', hn1'⟩ := getV_to HG2.out
              obtain rfl : k = i' := by omega
              clear ei'
              have HQR : Hid (w.heap.size ≠ w2.heap.size) := Lib.hid (by omega)
              clear b2 m2 hY hY0
              obtain ⟨kd, hkd⟩ : ∃ kd, kindOf id = kd := ⟨_, rfl⟩
              have CK : ∀ X : World, Calls Tryd.prog 93 #[.int .i64 id] X fun e w' => e = .returned (.int .i64 kd) ∧ X = w' := fun X => by rw [← hkd]; exact kind_any id X
              have CK := Lib.hid CK
              have HKD := Lib.hid hkd
              clear hkd
              by_cases h0 : kd = 0
              · subst h0
                have HV : Hid (getP s i = ([], 0, 129)) := Lib.hid (getP_bad HG.out hm (by rw [HSUB.out, ← hpg.out]; exact pgs_bad (by have := HK.out; omega) (by have := H64.out; omega) HG2.out (.inr HKD.out)) (by decide))
                go_wp2_with fail
                rw [HY.out]
                refine (CK.out _).mono ?_
                rintro e w3 ⟨rfl, rfl⟩
                go_wp2
                go_ret3
                rw [HV.out]
                exact ⟨_, rfl, World.ownsRow_nil _ _ _ _, HW3.out⟩
              · have e0 : (kd == 0) = false := by rw [beq_eq_false_iff_ne]; exact h0
                go_wp2_with fail
                rw [HY.out]
                refine (CK.out _).mono ?_
                rintro e w3 ⟨rfl, rfl⟩
                have hrow := own_row HO3.out rfl
                have CH := has_any A L.length cap L id Y rfl (by omega) hrow
                change Calls _ _ _ _ (fun e w' => e = .returned (.bool (dupL L id)) ∧ Below Y.heap.size Y w') at CH
                obtain ⟨dp, hdp⟩ : ∃ dp, dupL L id = dp := ⟨_, rfl⟩
                rw [hdp] at CH
                have CH := Lib.hid CH
                have HDP := Lib.hid hdp
                have H0 := Lib.hid h0
                clear hdp hrow
                cases dp
                · go_wp2_with fail
                  refine CH.out.mono ?_
                  rintro e w4 ⟨rfl, b4⟩
                  have HR4 := Lib.hid (HR2.out.of_below b4)
                  have HQ4 := Lib.hid (HQ0.out.of_below b4)
                  have HO4 := Lib.hid (own_mod HO3.out (Mod.of_below (S := fun _ => False) b4) (fun _ _ c => c))
                  have HW4 := Lib.hid (HW3.out.trans (b4.mono HW3.out.size))
                  clear b4
                  have CV := prvalue_any w.heap.size w2.heap.size sub j' id w4 (by omega) (by omega) (by omega) HR4.out HQ4.out HQR.out (NoTab.new HTT.out (Nat.le_refl _)) (NoTab.new HTT.out (by omega)) (HTT.out.below HW4.out)
                  have HNE4 := Lib.hid (own_ne HO4.out HR4.out (by decide))
                  obtain ⟨rv, hrv⟩ : ∃ rv, rdv sub id j' = rv := ⟨_, rfl⟩
                  rw [hrv] at CV
                  have CV := Lib.hid CV
                  have HRV := Lib.hid hrv
                  clear hrv
                  cases rv with
                  | none =>
                    have HV : Hid (getP s i = ([], 0, 129)) := Lib.hid (getP_bad HG.out hm (by rw [HSUB.out, ← hpg.out, pgs_rd (by have := HK.out; omega) (by have := H64.out; omega) HG2.out (by rw [HKD.out]; exact H0.out) HDP.out, HRV.out]) (by decide))
                    go_wp2_with fail
                    refine CV.out.mono ?_
                    rintro e w5 ⟨rfl, ⟨a5, b5⟩, _, m5⟩
                    have r5 := b5.cell 2
                    simp only [rdA, List.getElem?_toArray, List.getElem?_cons_zero, List.getElem?_cons_succ] at r5
                    have HW5 := Lib.hid (HW4.out.trans (m5.below HW4.out.size (fun k e => by rcases e with e | e <;> omega)))
                    clear b5 m5
                    go_wp2
                    go_ret3
                    rw [HV.out]
                    exact ⟨_, rfl, World.ownsRow_nil _ _ _ _, HW5.out⟩
                  | some pt =>
                    obtain ⟨p, tu⟩ := pt
                    obtain ⟨ia, ja, ea, rfl, hij2, hj2, epid⟩ := rdv_to HRV.out
                    have hPG : Hid (pgs sub f' (L ++ [p]) ja = pgs sub 66 [] 0) := Lib.hid (by rw [← hpg.out, pgs_rd (by have := HK.out; omega) (by have := H64.out; omega) HG2.out (by rw [HKD.out]; exact H0.out) HDP.out, HRV.out])
                    clear ea epid
                    go_wp2_with fail
                    refine CV.out.mono ?_
                    rintro e w5 ⟨rfl, b5, q5, m5⟩
                    have r5 := b5.cell 2
                    have s0 := q5.cell 0
                    have s1 := q5.cell 1
                    have s2 := q5.cell 2
                    have s3 := q5.cell 3
                    simp only [rdA, ppA, List.getElem?_toArray, List.getElem?_cons_zero, List.getElem?_cons_succ] at r5 s0 s1 s2 s3
                    have HW5 := Lib.hid (HW4.out.trans (m5.below HW4.out.size (fun k e => by rcases e with e | e <;> omega)))
                    have hNR : ∀ g, (Value.slice A L.length cap).ownBlock = some g → ¬ (g = w.heap.size ∨ g = w2.heap.size) := fun g e c => by
                      rcases c with c | c
                      · exact HNE4.out (e.trans (by rw [c]))
                      · have := (HO2.out.lt g e).2
                        omega
                    have HO5 := Lib.hid ((own_mod HO4.out m5 hNR).alloc (.cells (ppA p) 123))
                    have HB5 := Lib.hid (Blk.new w5 (ppA p) 123)
                    have HR5 := Lib.hid (b5.alloc (.cells (ppA p) 123))
                    have HW6 := Lib.hid (HW5.out.alloc HW5.out.size (.cells (ppA p) 123))
                    have hB6 := HW6.out.size
                    have HNR := Lib.hid hNR
                    have h6b : (L.length + 1) * 48 ≤ 140737488355328 := by omega
                    clear b5 q5 m5 hNR
                    go_wp2_with (at_builtin; go_loud (refine wpList_pushB (.tmp 77) (.tmp 79) 40 123 i0 _ 4 48 w5.heap.size (ppA p) rfl rfl Tryd.underlying40 hi hz0 hz1 hz2 rfl (by decide) rfl (by intro u hu; simp [ppA] at hu; rcases hu with rfl | rfl | rfl | rfl <;> rfl) w.heap.size _ L.length (flat L) rfl rfl HO5.out HB5.out hB6 (by unfold maxLen; omega) h6b ?_; intro v' w6 own6 hg6))
                    have HO6 := Lib.hid own6
                    have HR6 := Lib.hid (HR5.out.grown hg6 (fun e => HNR.out _ e (.inl rfl)))
                    have HW7 := Lib.hid (HW6.out.grown hg6 HW6.out.size (fun g e => (HO5.out.lt g e).1))
                    obtain ⟨A', cap', rfl, _, _⟩ := own_prow (L := L ++ [p]) (by rw [← flat_snoc]; exact own6) (by simp)
                    clear own6 hg6
                    go_roundw
                    case rel => exact ⟨L ++ [p], ja, f', Lib.hid (by have := hf.out; simp; omega), by simp; omega, by omega, hPG, Lib.hid (by rw [← flat_snoc, List.length_append]; exact HO6.out), HR6, HW7⟩
                    case measure => simp [lenOf]; omega
                · have HV : Hid (getP s i = ([], 0, 130)) := Lib.hid (getP_bad HG.out hm (by rw [HSUB.out, ← hpg.out]; exact pgs_dup (by have := HK.out; omega) (by have := H64.out; omega) HG2.out (by rw [HKD.out]; exact H0.out) HDP.out) (by decide))
                  go_wp2_with fail
                  refine CH.out.mono ?_
                  rintro e w4 ⟨rfl, b4⟩
                  go_wp2
                  go_ret3
                  rw [HV.out]
                  exact ⟨_, rfl, World.ownsRow_nil _ _ _ _, HW3.out.trans (b4.mono HW3.out.size)⟩
            · have e1 : (d != 0) = true := by rw [bne, beq_eq_false_iff_ne.2 hd]; rfl
              rw [if_neg hd, if_neg hd, e1] at CN
              have CN := Lib.hid CN
              have HV : Hid (getP s i = ([], 0, 129)) := Lib.hid (getP_bad HG.out hm (by rw [HSUB.out, ← hpg.out]; exact pgs_bad (by have := HK.out; omega) (by have := H64.out; omega) HG2.out (.inl hd)) (by decide))
              clear e1
              go_wp2_with fail
              refine CN.out.mono ?_
              rintro e w2 ⟨rfl, b2, m2⟩
              have r2 := b2.cell 2
              have hlt2 := b2.lt
              simp only [rdA, List.getElem?_toArray, List.getElem?_cons_zero, List.getElem?_cons_succ] at r2
              have B3 := Lib.hid ((XW.out.trans (m2.below XW.out.size (fun k e => by omega))).alloc (Nat.le_trans XW.out.size m2.size) (.cells (ppA ⟨0, 0, noS, noS⟩) 123))
              clear b2 m2
              go_wp2
              go_ret3
              rw [HV.out]
              exact ⟨_, rfl, World.ownsRow_nil _ _ _ _, B3.out⟩
        · obtain rfl : k = m := by omega
          have hkB : decide (k < k) = false := by simp
          have HV : Hid (getP s i = (L, (j : Int) + k, 0)) := Lib.hid (getP_ok HG.out hm (by rw [HSUB.out, ← hpg.out]; exact pgs_end (by omega)))
          go_wp2_with fail
          go_quiet (fail)
          go_wp2
          go_ret3
          rw [HV.out]
          exact ⟨_, rfl, hown.out, hb.out.os, hb.out.tape, hb.out.output, hb.out.size, hb.out.block⟩
  · have e1 : (c != 0) = true := by rw [bne, beq_eq_false_iff_ne.2 hc]; rfl
    have HV : Hid (getP s at_ = ([], 0, c)) := Lib.hid (getP_code HG.out hc)
    go_enter Tryd.func80, Tryd.ntmps80
    go_wp2_with fail
    refine CG.out.mono ?_
    rintro e w1 ⟨rfl, rfl⟩
    go_wp2
    go_ret3
    rw [HV.out]
    exact ⟨_, rfl, World.ownsRow_nil _ _ _ _, Below.refl _ _⟩
end Go.Proofs.YtedapgeabpadaaaDoor

