/- Parts of the proof, joined: PutP, VarGet, GetP, AllowPlain, PkP, Rs, Mod, TabsMod. -/
import Derived.Test.YtedapgeabpadaaaDoorH6P1
import Derived.Test.YtedapgeabpadaaaDoorH6P2
import Derived.Below
import Derived.Lib.Builder
import Derived.Lib.Hide
import Derived.WalkKit
import Derived.Laws.AppendOwn
import Derived.Laws.Cells
import Derived.Deep.AppendLies
/- The bytes of properties: plain. -/
namespace Go.Proofs.YtedapgeabpadaaaDoor
set_option linter.unusedVariables false
open Go.RowKit Pl

def Pp.fits (p : Pp) : Prop := p.s.size ≤ 140737488351232 ∧ p.t.size ≤ 140737488351232 ∧ -9223372036854775808 ≤ p.id ∧ p.id ≤ 9223372036854775807 ∧ -9223372036854775808 ≤ p.n ∧ p.n ≤ 9223372036854775807
/-- How many bytes a number of a kind has. -/
def wid (k : Int) : Int := if k = 1 then 1 else if k = 2 then 2 else 4
/-- A value's code, and its bytes. -/
def pvC (p : Pp) : Int :=
  if kindOf p.id = 4 then putC p.n else if kindOf p.id = 5 then dataC p.s else if kindOf p.id = 6 then tputC p.s
  else if kindOf p.id = 7 then (if tputC p.s = 0 then tputC p.t else tputC p.s) else fixC (wid (kindOf p.id)) p.n
def pvS (p : Pp) : ByteArray :=
  if kindOf p.id = 4 then ⟨(enc p.n).toArray⟩ else if kindOf p.id = 5 then dataS p.s else if kindOf p.id = 6 then tputS p.s
  else if kindOf p.id = 7 then tputS p.s ++ tputS p.t else ⟨(fixS (wid (kindOf p.id)) p.n).toArray⟩
theorem pvC_bd (p : Pp) : 0 ≤ pvC p ∧ pvC p ≤ 149 := by
  unfold pvC
  have h1 := putC_bd p.n
  have h2 := dataC_bd p.s
  have h3 := tputC_bd p.s
  have h4 := tputC_bd p.t
  have h5 := fixC_bd (wid (kindOf p.id)) p.n
  repeat' split
  all_goals omega
theorem enc_small (n : Int) : (enc n).length ≤ 4 := by
  rw [enc_length]
  unfold sz
  repeat' split
  all_goals decide
theorem dataS_small (s : ByteArray) : (dataS s).size ≤ 65537 := by
  unfold dataS
  split
  · decide
  · rename_i h
    have := fixS_len 2 s.size
    rw [ByteArray.size_append]
    show (fixS 2 s.size).toArray.size + s.size ≤ 65537
    simp at this ⊢
    omega
theorem tputS_small (s : ByteArray) : (tputS s).size ≤ 65537 := by
  unfold tputS
  split
  · decide
  · exact dataS_small s
theorem pvS_small (p : Pp) : (pvS p).size ≤ 131074 := by
  unfold pvS
  split
  · have := enc_small p.n
    show (enc p.n).toArray.size ≤ _
    simp; omega
  · split
    · have := dataS_small p.s; omega
    · split
      · have := tputS_small p.s; omega
      · split
        · have h1 := tputS_small p.s
          have h2 := tputS_small p.t
          rw [ByteArray.size_append]; omega
        · have := fixS_len (wid (kindOf p.id)) p.n
          have h2 : (wid (kindOf p.id)).toNat ≤ 4 := by
            unfold wid
            repeat' split
            all_goals decide
          show (fixS (wid (kindOf p.id)) p.n).toArray.size ≤ _
          simp; omega
/-- Has one of the first k the identifier, which may stand but once? -/
def dup (L : List Pp) (k : Nat) (id : Int) : Bool := (L.take k).any (fun p => p.id == id) && (id != 38)
/-- The code at one more. -/
def stp (L : List Pp) (k : Nat) (p : Pp) : Int := if kindOf p.id = 0 then 129 else if dup L k p.id = true then 130 else pvC p
def one (p : Pp) : ByteArray := ⟨(enc p.id).toArray⟩ ++ pvS p
def putK (L : List Pp) : Nat → ByteArray
  | 0 => ⟨#[]⟩
  | k + 1 => match L[k]? with | some p => putK L k ++ one p | none => putK L k
def codK (L : List Pp) : Nat → Int
  | 0 => 0
  | k + 1 => if codK L k = 0 then (match L[k]? with | some p => stp L k p | none => 0) else codK L k
theorem put_succ {L : List Pp} {k : Nat} {p : Pp} (h : L[k]? = some p) : putK L (k + 1) = putK L k ++ one p := by
  show (match L[k]? with | some p => putK L k ++ one p | none => putK L k) = _
  rw [h]
theorem cod_succ {L : List Pp} {k : Nat} {p : Pp} (h : L[k]? = some p) (h0 : codK L k = 0) : codK L (k + 1) = stp L k p := by
  show (if codK L k = 0 then (match L[k]? with | some p => stp L k p | none => 0) else codK L k) = _
  rw [if_pos h0, h]
theorem cod_stays {L : List Pp} {k : Nat} (h : codK L k ≠ 0) : ∀ d, codK L (k + d) = codK L k
  | 0 => rfl
  | d + 1 => by
    have ih := cod_stays h d
    show (if codK L (k + d) = 0 then (match L[k + d]? with | some p => stp L (k + d) p | none => 0) else codK L (k + d)) = _
    rw [ih, if_neg h]
theorem cod_last {L : List Pp} {k n : Nat} {c : Int} (h : codK L k = c) (hc : c ≠ 0) (hk : k ≤ n) : codK L n = c := by
  obtain ⟨d, rfl⟩ : ∃ d, n = k + d := ⟨n - k, by omega⟩
  rw [cod_stays (by rw [h]; exact hc), h]
theorem one_small (p : Pp) : (one p).size ≤ 131078 := by
  unfold one
  rw [ByteArray.size_append]
  have h1 := enc_small p.id
  have h2 := pvS_small p
  show (enc p.id).toArray.size + _ ≤ _
  simp only [List.size_toArray]
  omega
theorem put_small (L : List Pp) : ∀ k, (putK L k).size ≤ k * 131078
  | 0 => by simp [putK]; rfl
  | k + 1 => by
    have ih := put_small L k
    show (match L[k]? with | some p => putK L k ++ one p | none => putK L k).size ≤ _
    split
    · rename_i p _
      have := one_small p
      rw [ByteArray.size_append, Nat.succ_mul]; exact Nat.add_le_add ih this
    · exact Nat.le_trans ih (Nat.mul_le_mul_right _ (Nat.le_succ k))
/-- The code of properties, and their bytes. -/
def ppC (L : List Pp) : Int := if 64 < L.length then 149 else codK L L.length
def ppS (L : List Pp) : ByteArray := if ppC L = 0 then ⟨(enc (putK L L.length).size).toArray⟩ ++ putK L L.length else ⟨#[]⟩
theorem pp_long {L : List Pp} (h : 64 < L.length) : ppC L = 149 ∧ ppS L = ⟨#[]⟩ := by
  have e : ppC L = 149 := by unfold ppC; rw [if_pos h]
  exact ⟨e, by unfold ppS; rw [e, if_neg (by decide)]⟩
theorem pp_bad {L : List Pp} {c : Int} (h : ¬ 64 < L.length) (hc : codK L L.length = c) (h0 : c ≠ 0) : ppC L = c ∧ ppS L = ⟨#[]⟩ := by
  have e : ppC L = c := by unfold ppC; rw [if_neg h, hc]
  exact ⟨e, by unfold ppS; rw [e, if_neg h0]⟩
theorem pp_ok {L : List Pp} (h : ¬ 64 < L.length) (hc : codK L L.length = 0) : ppC L = 0 ∧ ppS L = ⟨(enc (putK L L.length).size).toArray⟩ ++ putK L L.length := by
  have e : ppC L = 0 := by unfold ppC; rw [if_neg h, hc]
  exact ⟨e, by unfold ppS; rw [e, if_pos rfl]⟩
theorem codK_bd (L : List Pp) : ∀ k, 0 ≤ codK L k ∧ codK L k ≤ 255
  | 0 => ⟨Int.le_refl 0, (by decide : (0 : Int) ≤ 255)⟩
  | k + 1 => by
    have ih := codK_bd L k
    show 0 ≤ (if codK L k = 0 then (match L[k]? with | some p => stp L k p | none => 0) else codK L k) ∧ (if codK L k = 0 then (match L[k]? with | some p => stp L k p | none => 0) else codK L k) ≤ 255
    split
    · split
      · rename_i p _
        have := pvC_bd p
        unfold stp
        split
        · decide
        · split
          · decide
          · omega
      · decide
    · exact ih
theorem ppC_bd (L : List Pp) : 0 ≤ ppC L ∧ ppC L ≤ 255 := by
  unfold ppC
  split
  · decide
  · exact codK_bd L _
theorem fits_take {L : List Pp} {M : Nat} (h : ∀ p ∈ L, p.fits) : ∀ p ∈ L.take M, p.fits := fun p hp => h p (List.mem_of_mem_take hp)
end Go.Proofs.YtedapgeabpadaaaDoor

/- The walks of both Get functions. -/
namespace Go.Proofs.YtedapgeabpadaaaDoor
open Go.RowKit Pl
open Go.PlainAid (bt bt_nonneg bt_le get_bt bt_end)

/-- What the three results of a reading are, as values. -/
theorem ret_get {k : IntKind} {p : Int × Int × Int} {x y z : Int} (h : p = (x, y, z)) :
    Ending.returned (.tuple #[.int .i64 x, .int .i64 y, .int k z]) = .returned (.tuple #[.int .i64 p.1, .int .i64 p.2.1, .int k p.2.2]) := by rw [h]

set_option maxHeartbeats 1000000 in
theorem get_in (s : ByteArray) (a : Nat) (w : World) (hs : s.size ≤ 140737488351232) (ha : a ≤ s.size) :
    Calls Tryd.prog 31 #[.string s, .int .i64 a] w fun e w' => e = .returned (.tuple #[.int .i64 (gi s 4 0 0 a).1, .int .i64 (gi s 4 0 0 a).2.1, .int .u8 (gi s 4 0 0 a).2.2]) ∧ w = w' := by
  have hbt := get_bt s
  go_enter Tryd.func31, Tryd.ntmps31
  go_wp2
  go_loop [18, 7] (fun i v => ∃ (k : Nat) (n : Int), i = .int .i64 k ∧ v = .int .i64 n ∧ k ≤ 4 ∧ 0 ≤ n ∧ n < 128 ^ k ∧ gi s 4 0 0 a = gi s (4 - k) k n (a + k)) (fun i _ => (4 - intOf i).toNat)
  case atStart => exact ⟨0, 0, rfl, rfl, by omega, by omega, by decide, rfl⟩
  case round =>
    obtain ⟨k, n, rfl, rfl, hk, hn0, hn1', hv'⟩ := hrel
    have hv := Lib.hid hv'
    clear hv'
    by_cases h4 : k = 4
    · subst h4
      clear hn1'
      go_wp2
      go_ret3
      exact ⟨ret_get (hv.out.trans gi_zero), rfl⟩
    · by_cases he : s.size ≤ a + k
      · have hg := Lib.hid (hv.out.trans (show gi s (4 - k) k n (a + k) = (0, 0, 242) by obtain ⟨f, hf⟩ : ∃ f, 4 - k = f + 1 := ⟨3 - k, by omega⟩; rw [hf]; exact gi_end he))
        clear hn1'
        go_wp2
        go_ret3
        exact ⟨ret_get hg.out, rfl⟩
      · have hn1 := Lib.hid hn1'
        clear hn1'
        obtain rfl | rfl | rfl | rfl : k = 0 ∨ k = 1 ∨ k = 2 ∨ k = 3 := by omega
        · obtain ⟨b, hB⟩ : ∃ b, bt s (a) = b := ⟨_, rfl⟩
          have hb0 : 0 ≤ b := by rw [← hB]; exact bt_nonneg s _
          have hb1 : b ≤ 255 := by rw [← hB]; exact bt_le s _
          obtain ⟨c, hc⟩ : ∃ c, c = b % 128 := ⟨_, rfl⟩
          have hc0 : 0 ≤ c := by omega
          have hc1 : c < 128 := by omega
          have hn2 : n < 1 := by have := hn1.out; simpa using this
          obtain ⟨m, hm⟩ : ∃ m, m = n + c := ⟨_, rfl⟩
          have hm0 : 0 ≤ m := by omega
          have hm1 : m < 128 := by omega
          have hand : bits .and .i64 b 127 = c := by rw [and_127 hb0 (by omega)]; exact hc.symm
          have hor : bits .or .i64 n (c) = m := by
            rw [hm, show c = 2 ^ 0 * c from by omega]
            exact or_add 0 hn0 (by simpa using hn2) hc0 (by omega)
          have Hc := Lib.hid hc
          have Hm := Lib.hid hm
          clear hc hm
          by_cases hl : b < 128
          · have Hcb := Lib.hid (show c = b by have := Hc.out; omega)
            by_cases hz : 0 < 0 ∧ b = 0
            · have hbad := Lib.hid (hv.out.trans (gi_long (f := 3 - 0) (k := 0) (n := n) he (by rw [show bt s (a + 0) = b from hB]; exact hl) (by rw [show bt s (a + 0) = b from hB]; exact hz)))
              have Hz := Lib.hid hz
              clear hz
              exfalso
              have := Hz.out
              omega
            · have hgo := Lib.hid (hv.out.trans (gi_last (f := 3 - 0) (k := 0) (n := n) he (by rw [show bt s (a + 0) = b from hB]; exact hl) (by rw [show bt s (a + 0) = b from hB]; exact hz)))
              have Hz := Lib.hid hz
              clear hz
              have hsz : Hid (sz m = 0 + 1) := Lib.hid (by have := Hm.out; have := Hcb.out; have := Hz.out; exact sz_exact (k := 0) hm0 (by simp; omega) (by first | omega | (simp; done) | (simp; omega)) (by omega))
              have hne : (sz m != 1) = false := by rw [hsz.out]; rfl
              go_wp2_with fail
              refine (size_any m _).mono ?_
              rintro e w' ⟨rfl, rfl⟩
              go_wp2
              go_ret3
              exact ⟨ret_get (by rw [hgo.out, show bt s (a + 0) = b from hB, Hm.out, Hcb.out]; simp), rfl⟩
          · have hgo := Lib.hid (hv.out.trans (gi_more (f := 3 - 0) (k := 0) (n := n) he (by rw [show bt s (a + 0) = b from hB]; omega)))
            go_wp2
            go_round
            case rel => exact ⟨0 + 1, m, by go_num, rfl, by omega, hm0, by simpa using hm1, by rw [hgo.out, show bt s (a + 0) = b from hB, ← Hc.out, Hm.out]; simp⟩
            case measure => first | (simp [intOf]; done) | (simp [intOf]; omega)
        · obtain ⟨b, hB⟩ : ∃ b, bt s (a + 1) = b := ⟨_, rfl⟩
          have hb0 : 0 ≤ b := by rw [← hB]; exact bt_nonneg s _
          have hb1 : b ≤ 255 := by rw [← hB]; exact bt_le s _
          obtain ⟨c, hc⟩ : ∃ c, c = b % 128 := ⟨_, rfl⟩
          have hc0 : 0 ≤ c := by omega
          have hc1 : c < 128 := by omega
          have hn2 : n < 128 := by have := hn1.out; simpa using this
          obtain ⟨m, hm⟩ : ∃ m, m = n + c * 128 := ⟨_, rfl⟩
          have hm0 : 0 ≤ m := by omega
          have hm1 : m < 16384 := by omega
          have hand : bits .and .i64 b 127 = c := by rw [and_127 hb0 (by omega)]; exact hc.symm
          have hor : bits .or .i64 n (c * 128) = m := by
            rw [hm, show c * 128 = 2 ^ 7 * c from by omega]
            exact or_add 7 hn0 (by simpa using hn2) hc0 (by omega)
          have Hc := Lib.hid hc
          have Hm := Lib.hid hm
          clear hc hm
          by_cases hl : b < 128
          · have Hcb := Lib.hid (show c = b by have := Hc.out; omega)
            by_cases hz : 0 < 1 ∧ b = 0
            · have hbad := Lib.hid (hv.out.trans (gi_long (f := 3 - 1) (k := 1) (n := n) he (by rw [show bt s (a + 1) = b from hB]; exact hl) (by rw [show bt s (a + 1) = b from hB]; exact hz)))
              have Hz := Lib.hid hz
              clear hz
              have hsz : Hid (sz m ≠ 1 + 1) := Lib.hid (by have := Hm.out; have := Hcb.out; have := Hz.out; have := sz_small (n := m) (k := 1) hm0 (by simp; omega) (by omega); omega)
              have hne : (sz m != 2) = true := by have := hsz.out; simpa using this
              go_wp2_with fail
              refine (size_any m _).mono ?_
              rintro e w' ⟨rfl, rfl⟩
              go_wp2
              go_ret3
              exact ⟨ret_get hbad.out, rfl⟩
            · have hgo := Lib.hid (hv.out.trans (gi_last (f := 3 - 1) (k := 1) (n := n) he (by rw [show bt s (a + 1) = b from hB]; exact hl) (by rw [show bt s (a + 1) = b from hB]; exact hz)))
              have Hz := Lib.hid hz
              clear hz
              have hsz : Hid (sz m = 1 + 1) := Lib.hid (by have := Hm.out; have := Hcb.out; have := Hz.out; exact sz_exact (k := 1) hm0 (by simp; omega) (by first | omega | (simp; done) | (simp; omega)) (by omega))
              have hne : (sz m != 2) = false := by rw [hsz.out]; rfl
              go_wp2_with fail
              refine (size_any m _).mono ?_
              rintro e w' ⟨rfl, rfl⟩
              go_wp2
              go_ret3
              exact ⟨ret_get (by rw [hgo.out, show bt s (a + 1) = b from hB, Hm.out, Hcb.out]; simp), rfl⟩
          · have hgo := Lib.hid (hv.out.trans (gi_more (f := 3 - 1) (k := 1) (n := n) he (by rw [show bt s (a + 1) = b from hB]; omega)))
            go_wp2
            go_round
            case rel => exact ⟨1 + 1, m, by go_num, rfl, by omega, hm0, by simpa using hm1, by rw [hgo.out, show bt s (a + 1) = b from hB, ← Hc.out, Hm.out]; simp⟩
            case measure => first | (simp [intOf]; done) | (simp [intOf]; omega)
        · obtain ⟨b, hB⟩ : ∃ b, bt s (a + 2) = b := ⟨_, rfl⟩
          have hb0 : 0 ≤ b := by rw [← hB]; exact bt_nonneg s _
          have hb1 : b ≤ 255 := by rw [← hB]; exact bt_le s _
          obtain ⟨c, hc⟩ : ∃ c, c = b % 128 := ⟨_, rfl⟩
          have hc0 : 0 ≤ c := by omega
          have hc1 : c < 128 := by omega
          have hn2 : n < 16384 := by have := hn1.out; simpa using this
          obtain ⟨m, hm⟩ : ∃ m, m = n + c * 16384 := ⟨_, rfl⟩
          have hm0 : 0 ≤ m := by omega
          have hm1 : m < 2097152 := by omega
          have hand : bits .and .i64 b 127 = c := by rw [and_127 hb0 (by omega)]; exact hc.symm
          have hor : bits .or .i64 n (c * 16384) = m := by
            rw [hm, show c * 16384 = 2 ^ 14 * c from by omega]
            exact or_add 14 hn0 (by simpa using hn2) hc0 (by omega)
          have Hc := Lib.hid hc
          have Hm := Lib.hid hm
          clear hc hm
          by_cases hl : b < 128
          · have Hcb := Lib.hid (show c = b by have := Hc.out; omega)
            by_cases hz : 0 < 2 ∧ b = 0
            · have hbad := Lib.hid (hv.out.trans (gi_long (f := 3 - 2) (k := 2) (n := n) he (by rw [show bt s (a + 2) = b from hB]; exact hl) (by rw [show bt s (a + 2) = b from hB]; exact hz)))
              have Hz := Lib.hid hz
              clear hz
              have hsz : Hid (sz m ≠ 2 + 1) := Lib.hid (by have := Hm.out; have := Hcb.out; have := Hz.out; have := sz_small (n := m) (k := 2) hm0 (by simp; omega) (by omega); omega)
              have hne : (sz m != 3) = true := by have := hsz.out; simpa using this
              go_wp2_with fail
              refine (size_any m _).mono ?_
              rintro e w' ⟨rfl, rfl⟩
              go_wp2
              go_ret3
              exact ⟨ret_get hbad.out, rfl⟩
            · have hgo := Lib.hid (hv.out.trans (gi_last (f := 3 - 2) (k := 2) (n := n) he (by rw [show bt s (a + 2) = b from hB]; exact hl) (by rw [show bt s (a + 2) = b from hB]; exact hz)))
              have Hz := Lib.hid hz
              clear hz
              have hsz : Hid (sz m = 2 + 1) := Lib.hid (by have := Hm.out; have := Hcb.out; have := Hz.out; exact sz_exact (k := 2) hm0 (by simp; omega) (by first | omega | (simp; done) | (simp; omega)) (by omega))
              have hne : (sz m != 3) = false := by rw [hsz.out]; rfl
              go_wp2_with fail
              refine (size_any m _).mono ?_
              rintro e w' ⟨rfl, rfl⟩
              go_wp2
              go_ret3
              exact ⟨ret_get (by rw [hgo.out, show bt s (a + 2) = b from hB, Hm.out, Hcb.out]; simp), rfl⟩
          · have hgo := Lib.hid (hv.out.trans (gi_more (f := 3 - 2) (k := 2) (n := n) he (by rw [show bt s (a + 2) = b from hB]; omega)))
            go_wp2
            go_round
            case rel => exact ⟨2 + 1, m, by go_num, rfl, by omega, hm0, by simpa using hm1, by rw [hgo.out, show bt s (a + 2) = b from hB, ← Hc.out, Hm.out]; simp⟩
            case measure => first | (simp [intOf]; done) | (simp [intOf]; omega)
        · obtain ⟨b, hB⟩ : ∃ b, bt s (a + 3) = b := ⟨_, rfl⟩
          have hb0 : 0 ≤ b := by rw [← hB]; exact bt_nonneg s _
          have hb1 : b ≤ 255 := by rw [← hB]; exact bt_le s _
          obtain ⟨c, hc⟩ : ∃ c, c = b % 128 := ⟨_, rfl⟩
          have hc0 : 0 ≤ c := by omega
          have hc1 : c < 128 := by omega
          have hn2 : n < 2097152 := by have := hn1.out; simpa using this
          obtain ⟨m, hm⟩ : ∃ m, m = n + c * 2097152 := ⟨_, rfl⟩
          have hm0 : 0 ≤ m := by omega
          have hm1 : m < 268435456 := by omega
          have hand : bits .and .i64 b 127 = c := by rw [and_127 hb0 (by omega)]; exact hc.symm
          have hor : bits .or .i64 n (c * 2097152) = m := by
            rw [hm, show c * 2097152 = 2 ^ 21 * c from by omega]
            exact or_add 21 hn0 (by simpa using hn2) hc0 (by omega)
          have Hc := Lib.hid hc
          have Hm := Lib.hid hm
          clear hc hm
          by_cases hl : b < 128
          · have Hcb := Lib.hid (show c = b by have := Hc.out; omega)
            by_cases hz : 0 < 3 ∧ b = 0
            · have hbad := Lib.hid (hv.out.trans (gi_long (f := 3 - 3) (k := 3) (n := n) he (by rw [show bt s (a + 3) = b from hB]; exact hl) (by rw [show bt s (a + 3) = b from hB]; exact hz)))
              have Hz := Lib.hid hz
              clear hz
              have hsz : Hid (sz m ≠ 3 + 1) := Lib.hid (by have := Hm.out; have := Hcb.out; have := Hz.out; have := sz_small (n := m) (k := 3) hm0 (by simp; omega) (by omega); omega)
              have hne : (sz m != 4) = true := by have := hsz.out; simpa using this
              go_wp2_with fail
              refine (size_any m _).mono ?_
              rintro e w' ⟨rfl, rfl⟩
              go_wp2
              go_ret3
              exact ⟨ret_get hbad.out, rfl⟩
            · have hgo := Lib.hid (hv.out.trans (gi_last (f := 3 - 3) (k := 3) (n := n) he (by rw [show bt s (a + 3) = b from hB]; exact hl) (by rw [show bt s (a + 3) = b from hB]; exact hz)))
              have Hz := Lib.hid hz
              clear hz
              have hsz : Hid (sz m = 3 + 1) := Lib.hid (by have := Hm.out; have := Hcb.out; have := Hz.out; exact sz_exact (k := 3) hm0 (by simp; omega) (by first | omega | (simp; done) | (simp; omega)) (by omega))
              have hne : (sz m != 4) = false := by rw [hsz.out]; rfl
              go_wp2_with fail
              refine (size_any m _).mono ?_
              rintro e w' ⟨rfl, rfl⟩
              go_wp2
              go_ret3
              exact ⟨ret_get (by rw [hgo.out, show bt s (a + 3) = b from hB, Hm.out, Hcb.out]; simp), rfl⟩
          · have hgo := Lib.hid (hv.out.trans (gi_more (f := 3 - 3) (k := 3) (n := n) he (by rw [show bt s (a + 3) = b from hB]; omega)))
            go_wp2
            go_round
            case rel => exact ⟨3 + 1, m, by go_num, rfl, by omega, hm0, by simpa using hm1, by rw [hgo.out, show bt s (a + 3) = b from hB, ← Hc.out, Hm.out]; simp⟩
            case measure => first | (simp [intOf]; done) | (simp [intOf]; omega)

theorem get_all (s : ByteArray) (at_ : Int) (w : World) (hs : s.size ≤ 140737488351232) (h0 : -9223372036854775808 ≤ at_) (h1 : at_ ≤ 9223372036854775807) :
    Calls Tryd.prog 31 #[.string s, .int .i64 at_] w fun e w' => e = .returned (.tuple #[.int .i64 (getV s at_).1, .int .i64 (getV s at_).2.1, .int .u8 (getV s at_).2.2]) ∧ w = w' := by
  by_cases hb : at_ < 0 ∨ (s.size : Int) < at_
  · have hg := Lib.hid (getV_bad hb)
    go_enter Tryd.func31, Tryd.ntmps31
    go_wp2
    all_goals go_ret3
    all_goals exact ⟨ret_get hg.out, rfl⟩
  · obtain ⟨a, rfl⟩ := Int.eq_ofNat_of_zero_le (show 0 ≤ at_ by omega)
    rw [getV_ok (show a ≤ s.size by omega)]
    exact get_in s a w hs (by omega)

set_option maxHeartbeats 1000000 in
theorem refget_in (s : ByteArray) (a : Nat) (w : World) (hs : s.size ≤ 140737488351232) (ha : a ≤ s.size) :
    Calls Tryd.prog 36 #[.string s, .int .i64 a] w fun e w' => e = .returned (.tuple #[.int .i64 (gi s 4 0 0 a).1, .int .i64 (gi s 4 0 0 a).2.1, .int .i64 (gi s 4 0 0 a).2.2]) ∧ w = w' := by
  have hbt := get_bt s
  go_enter Tryd.func36, Tryd.ntmps36
  go_wp2
  go_loop [9, 7, 8] (fun i v q => ∃ (k : Nat) (n : Int), i = .int .i64 k ∧ v = .int .i64 n ∧ q = .int .i64 (128 ^ k) ∧ k ≤ 4 ∧ 0 ≤ n ∧ n < 128 ^ k ∧ gi s 4 0 0 a = gi s (4 - k) k n (a + k)) (fun i _ _ => (4 - intOf i).toNat)
  case atStart => exact ⟨0, 0, rfl, rfl, rfl, by omega, by omega, by decide, rfl⟩
  case round =>
    obtain ⟨k, n, rfl, rfl, rfl, hk, hn0, hn1', hv'⟩ := hrel
    have hv := Lib.hid hv'
    clear hv'
    by_cases h4 : k = 4
    · subst h4
      clear hn1'
      go_wp2
      go_ret3
      exact ⟨ret_get (hv.out.trans gi_zero), rfl⟩
    · by_cases he : s.size ≤ a + k
      · have hg := Lib.hid (hv.out.trans (show gi s (4 - k) k n (a + k) = (0, 0, 242) by obtain ⟨f, hf⟩ : ∃ f, 4 - k = f + 1 := ⟨3 - k, by omega⟩; rw [hf]; exact gi_end he))
        clear hn1'
        go_wp2
        go_ret3
        exact ⟨ret_get hg.out, rfl⟩
      · have hn1 := Lib.hid hn1'
        clear hn1'
        obtain rfl | rfl | rfl | rfl : k = 0 ∨ k = 1 ∨ k = 2 ∨ k = 3 := by omega
        · obtain ⟨b, hB⟩ : ∃ b, bt s (a) = b := ⟨_, rfl⟩
          have hb0 : 0 ≤ b := by rw [← hB]; exact bt_nonneg s _
          have hb1 : b ≤ 255 := by rw [← hB]; exact bt_le s _
          obtain ⟨c, hc⟩ : ∃ c, b % 128 = c := ⟨_, rfl⟩
          have hc0 : 0 ≤ c := by omega
          have hc1 : c < 128 := by omega
          have hn2 : n < 1 := by have := hn1.out; simpa using this
          have hm0 : 0 ≤ n + c := by omega
          have hm1 : n + c < 128 := by omega
          have Hc := Lib.hid hc
          by_cases hl : b < 128
          · have Hcb := Lib.hid (show c = b by omega)
            by_cases hz : 0 < 0 ∧ b = 0
            · have Hz := Lib.hid hz
              clear hz
              have hbad := Lib.hid (hv.out.trans (gi_long (f := 3 - 0) (k := 0) (n := n) he (by rw [show bt s (a + 0) = b from hB]; exact hl) (by rw [show bt s (a + 0) = b from hB]; exact Hz.out)))
              exfalso
              have := Hz.out
              omega
            · have Hz := Lib.hid hz
              clear hz
              have hgo := Lib.hid (hv.out.trans (gi_last (f := 3 - 0) (k := 0) (n := n) he (by rw [show bt s (a + 0) = b from hB]; exact hl) (by rw [show bt s (a + 0) = b from hB]; exact Hz.out)))
              have hge : 1 ≤ sz (n + c) := by have := Hcb.out; have := Hz.out; have := sz_exact (n := n + c) (k := 0) hm0 (by simp; omega) (by first | omega | (simp; done) | (simp; omega)) (by omega); omega
              go_wp2_with fail
              refine (refsize_any _ _).mono ?_
              rintro e w' ⟨rfl, rfl⟩
              go_wp2
              go_ret3
              exact ⟨ret_get (by rw [hgo.out, show bt s (a + 0) = b from hB, Hcb.out]; simp), rfl⟩
          · have hgo := Lib.hid (hv.out.trans (gi_more (f := 3 - 0) (k := 0) (n := n) he (by rw [show bt s (a + 0) = b from hB]; omega)))
            go_wp2
            go_round
            case rel => exact ⟨0 + 1, n + c, by go_num, rfl, by first | rfl | (simp; done), by omega, hm0, by simpa using hm1, by rw [hgo.out, show bt s (a + 0) = b from hB, Hc.out]; simp⟩
            case measure => first | (simp [intOf]; done) | (simp [intOf]; omega)
        · obtain ⟨b, hB⟩ : ∃ b, bt s (a + 1) = b := ⟨_, rfl⟩
          have hb0 : 0 ≤ b := by rw [← hB]; exact bt_nonneg s _
          have hb1 : b ≤ 255 := by rw [← hB]; exact bt_le s _
          obtain ⟨c, hc⟩ : ∃ c, b % 128 = c := ⟨_, rfl⟩
          have hc0 : 0 ≤ c := by omega
          have hc1 : c < 128 := by omega
          have hn2 : n < 128 := by have := hn1.out; simpa using this
          have hm0 : 0 ≤ n + c * 128 := by omega
          have hm1 : n + c * 128 < 16384 := by omega
          have Hc := Lib.hid hc
          by_cases hl : b < 128
          · have Hcb := Lib.hid (show c = b by omega)
            by_cases hz : 0 < 1 ∧ b = 0
            · have Hz := Lib.hid hz
              clear hz
              have hbad := Lib.hid (hv.out.trans (gi_long (f := 3 - 1) (k := 1) (n := n) he (by rw [show bt s (a + 1) = b from hB]; exact hl) (by rw [show bt s (a + 1) = b from hB]; exact Hz.out)))
              have hlt : sz (n + c * 128) < 2 := by have := Hcb.out; have := Hz.out; have := sz_small (n := n + c * 128) (k := 1) hm0 (by simp; omega) (by omega); omega
              go_wp2_with fail
              refine (refsize_any _ _).mono ?_
              rintro e w' ⟨rfl, rfl⟩
              go_wp2
              go_ret3
              exact ⟨ret_get hbad.out, rfl⟩
            · have Hz := Lib.hid hz
              clear hz
              have hgo := Lib.hid (hv.out.trans (gi_last (f := 3 - 1) (k := 1) (n := n) he (by rw [show bt s (a + 1) = b from hB]; exact hl) (by rw [show bt s (a + 1) = b from hB]; exact Hz.out)))
              have hge : 2 ≤ sz (n + c * 128) := by have := Hcb.out; have := Hz.out; have := sz_exact (n := n + c * 128) (k := 1) hm0 (by simp; omega) (by first | omega | (simp; done) | (simp; omega)) (by omega); omega
              go_wp2_with fail
              refine (refsize_any _ _).mono ?_
              rintro e w' ⟨rfl, rfl⟩
              go_wp2
              go_ret3
              exact ⟨ret_get (by rw [hgo.out, show bt s (a + 1) = b from hB, Hcb.out]; simp), rfl⟩
          · have hgo := Lib.hid (hv.out.trans (gi_more (f := 3 - 1) (k := 1) (n := n) he (by rw [show bt s (a + 1) = b from hB]; omega)))
            go_wp2
            go_round
            case rel => exact ⟨1 + 1, n + c * 128, by go_num, rfl, by first | rfl | (simp; done), by omega, hm0, by simpa using hm1, by rw [hgo.out, show bt s (a + 1) = b from hB, Hc.out]; simp⟩
            case measure => first | (simp [intOf]; done) | (simp [intOf]; omega)
        · obtain ⟨b, hB⟩ : ∃ b, bt s (a + 2) = b := ⟨_, rfl⟩
          have hb0 : 0 ≤ b := by rw [← hB]; exact bt_nonneg s _
          have hb1 : b ≤ 255 := by rw [← hB]; exact bt_le s _
          obtain ⟨c, hc⟩ : ∃ c, b % 128 = c := ⟨_, rfl⟩
          have hc0 : 0 ≤ c := by omega
          have hc1 : c < 128 := by omega
          have hn2 : n < 16384 := by have := hn1.out; simpa using this
          have hm0 : 0 ≤ n + c * 16384 := by omega
          have hm1 : n + c * 16384 < 2097152 := by omega
          have Hc := Lib.hid hc
          by_cases hl : b < 128
          · have Hcb := Lib.hid (show c = b by omega)
            by_cases hz : 0 < 2 ∧ b = 0
            · have Hz := Lib.hid hz
              clear hz
              have hbad := Lib.hid (hv.out.trans (gi_long (f := 3 - 2) (k := 2) (n := n) he (by rw [show bt s (a + 2) = b from hB]; exact hl) (by rw [show bt s (a + 2) = b from hB]; exact Hz.out)))
              have hlt : sz (n + c * 16384) < 3 := by have := Hcb.out; have := Hz.out; have := sz_small (n := n + c * 16384) (k := 2) hm0 (by simp; omega) (by omega); omega
              go_wp2_with fail
              refine (refsize_any _ _).mono ?_
              rintro e w' ⟨rfl, rfl⟩
              go_wp2
              go_ret3
              exact ⟨ret_get hbad.out, rfl⟩
            · have Hz := Lib.hid hz
              clear hz
              have hgo := Lib.hid (hv.out.trans (gi_last (f := 3 - 2) (k := 2) (n := n) he (by rw [show bt s (a + 2) = b from hB]; exact hl) (by rw [show bt s (a + 2) = b from hB]; exact Hz.out)))
              have hge : 3 ≤ sz (n + c * 16384) := by have := Hcb.out; have := Hz.out; have := sz_exact (n := n + c * 16384) (k := 2) hm0 (by simp; omega) (by first | omega | (simp; done) | (simp; omega)) (by omega); omega
              go_wp2_with fail
              refine (refsize_any _ _).mono ?_
              rintro e w' ⟨rfl, rfl⟩
              go_wp2
              go_ret3
              exact ⟨ret_get (by rw [hgo.out, show bt s (a + 2) = b from hB, Hcb.out]; simp), rfl⟩
          · have hgo := Lib.hid (hv.out.trans (gi_more (f := 3 - 2) (k := 2) (n := n) he (by rw [show bt s (a + 2) = b from hB]; omega)))
            go_wp2
            go_round
            case rel => exact ⟨2 + 1, n + c * 16384, by go_num, rfl, by first | rfl | (simp; done), by omega, hm0, by simpa using hm1, by rw [hgo.out, show bt s (a + 2) = b from hB, Hc.out]; simp⟩
            case measure => first | (simp [intOf]; done) | (simp [intOf]; omega)
        · obtain ⟨b, hB⟩ : ∃ b, bt s (a + 3) = b := ⟨_, rfl⟩
          have hb0 : 0 ≤ b := by rw [← hB]; exact bt_nonneg s _
          have hb1 : b ≤ 255 := by rw [← hB]; exact bt_le s _
          obtain ⟨c, hc⟩ : ∃ c, b % 128 = c := ⟨_, rfl⟩
          have hc0 : 0 ≤ c := by omega
          have hc1 : c < 128 := by omega
          have hn2 : n < 2097152 := by have := hn1.out; simpa using this
          have hm0 : 0 ≤ n + c * 2097152 := by omega
          have hm1 : n + c * 2097152 < 268435456 := by omega
          have Hc := Lib.hid hc
          by_cases hl : b < 128
          · have Hcb := Lib.hid (show c = b by omega)
            by_cases hz : 0 < 3 ∧ b = 0
            · have Hz := Lib.hid hz
              clear hz
              have hbad := Lib.hid (hv.out.trans (gi_long (f := 3 - 3) (k := 3) (n := n) he (by rw [show bt s (a + 3) = b from hB]; exact hl) (by rw [show bt s (a + 3) = b from hB]; exact Hz.out)))
              have hlt : sz (n + c * 2097152) < 4 := by have := Hcb.out; have := Hz.out; have := sz_small (n := n + c * 2097152) (k := 3) hm0 (by simp; omega) (by omega); omega
              go_wp2_with fail
              refine (refsize_any _ _).mono ?_
              rintro e w' ⟨rfl, rfl⟩
              go_wp2
              go_ret3
              exact ⟨ret_get hbad.out, rfl⟩
            · have Hz := Lib.hid hz
              clear hz
              have hgo := Lib.hid (hv.out.trans (gi_last (f := 3 - 3) (k := 3) (n := n) he (by rw [show bt s (a + 3) = b from hB]; exact hl) (by rw [show bt s (a + 3) = b from hB]; exact Hz.out)))
              have hge : 4 ≤ sz (n + c * 2097152) := by have := Hcb.out; have := Hz.out; have := sz_exact (n := n + c * 2097152) (k := 3) hm0 (by simp; omega) (by first | omega | (simp; done) | (simp; omega)) (by omega); omega
              go_wp2_with fail
              refine (refsize_any _ _).mono ?_
              rintro e w' ⟨rfl, rfl⟩
              go_wp2
              go_ret3
              exact ⟨ret_get (by rw [hgo.out, show bt s (a + 3) = b from hB, Hcb.out]; simp), rfl⟩
          · have hgo := Lib.hid (hv.out.trans (gi_more (f := 3 - 3) (k := 3) (n := n) he (by rw [show bt s (a + 3) = b from hB]; omega)))
            go_wp2
            go_round
            case rel => exact ⟨3 + 1, n + c * 2097152, by go_num, rfl, by first | rfl | (simp; done), by omega, hm0, by simpa using hm1, by rw [hgo.out, show bt s (a + 3) = b from hB, Hc.out]; simp⟩
            case measure => first | (simp [intOf]; done) | (simp [intOf]; omega)

theorem refget_all (s : ByteArray) (at_ : Int) (w : World) (hs : s.size ≤ 140737488351232) (h0 : -9223372036854775808 ≤ at_) (h1 : at_ ≤ 9223372036854775807) :
    Calls Tryd.prog 36 #[.string s, .int .i64 at_] w fun e w' => e = .returned (.tuple #[.int .i64 (getV s at_).1, .int .i64 (getV s at_).2.1, .int .i64 (getV s at_).2.2]) ∧ w = w' := by
  by_cases hb : at_ < 0 ∨ (s.size : Int) < at_
  · have hg := Lib.hid (getV_bad hb)
    go_enter Tryd.func36, Tryd.ntmps36
    go_wp2
    all_goals go_ret3
    all_goals exact ⟨ret_get hg.out, rfl⟩
  · obtain ⟨a, rfl⟩ := Int.eq_ofNat_of_zero_le (show 0 ≤ at_ by omega)
    rw [getV_ok (show a ≤ s.size by omega)]
    exact refget_in s a w hs (by omega)
end Go.Proofs.YtedapgeabpadaaaDoor

/- The properties at a place: plain. -/
namespace Go.Proofs.YtedapgeabpadaaaDoor
set_option linter.unusedVariables false
open Go.RowKit Pl

def noS : ByteArray := ⟨#[]⟩
/-- The value of a property at a place: the property, the place behind it; none: it isn't there. -/
def rdv (s : ByteArray) (id : Int) (a : Int) : Option (Pp × Int) :=
  if kindOf id = 4 then (if (getV s a).2.2 = 0 then some (⟨id, (getV s a).1, noS, noS⟩, (getV s a).2.1) else none)
  else if kindOf id = 5 then (if (getD s a).2.2 = 0 then some (⟨id, 0, (getD s a).1, noS⟩, (getD s a).2.1) else none)
  else if kindOf id = 6 then (if (tget s a).2.2 = 0 then some (⟨id, 0, (tget s a).1, noS⟩, (tget s a).2.1) else none)
  else if kindOf id = 7 then (if (tget s a).2.2 = 0 then (if (tget s (tget s a).2.1).2.2 = 0 then some (⟨id, 0, (tget s a).1, (tget s (tget s a).2.1).1⟩, (tget s (tget s a).2.1).2.1) else none) else none)
  else (if (getF s a (wid (kindOf id))).2.2 = 0 then some (⟨id, (getF s a (wid (kindOf id))).1, noS, noS⟩, (getF s a (wid (kindOf id))).2.1) else none)
def dupL (L : List Pp) (id : Int) : Bool := L.any (fun p => p.id == id) && (id != 38)
/-- The rest of the properties, behind those that have been read. -/
def pgs (s : ByteArray) : Nat → List Pp → Int → List Pp × Int
  | 0, L, _ => (L, 0)
  | f + 1, L, a =>
    if (s.size : Int) ≤ a then (L, 0) else if 64 ≤ L.length then ([], 149)
    else if (getV s a).2.2 ≠ 0 ∨ kindOf (getV s a).1 = 0 then ([], 129)
    else if dupL L (getV s a).1 = true then ([], 130)
    else match rdv s (getV s a).1 (getV s a).2.1 with
      | none => ([], 129)
      | some (p, tu) => pgs s f (L ++ [p]) tu
def getP (s : ByteArray) (at_ : Int) : List Pp × Int × Int :=
  if (getV s at_).2.2 ≠ 0 then ([], 0, (getV s at_).2.2)
  else if (s.size : Int) - (getV s at_).2.1 < (getV s at_).1 then ([], 0, 242)
  else
    let r := pgs (s.extract (getV s at_).2.1.toNat ((getV s at_).2.1.toNat + (getV s at_).1.toNat)) 66 [] 0
    if r.2 ≠ 0 then ([], 0, r.2) else (r.1, (getV s at_).2.1 + (getV s at_).1, 0)
theorem pgs_end {s : ByteArray} {f : Nat} {L : List Pp} {a : Int} (h : (s.size : Int) ≤ a) : pgs s f L a = (L, 0) := by
  cases f with
  | zero => rfl
  | succ f => unfold pgs; rw [if_pos h]
theorem pgs_full {s : ByteArray} {f : Nat} {L : List Pp} {a : Int} (h : ¬ (s.size : Int) ≤ a) (h1 : 64 ≤ L.length) : pgs s (f + 1) L a = ([], 149) := by
  unfold pgs; rw [if_neg h, if_pos h1]
theorem pgs_bad {s : ByteArray} {f : Nat} {L : List Pp} {a id nx d : Int} (h : ¬ (s.size : Int) ≤ a) (h1 : ¬ 64 ≤ L.length) (hg : getV s a = (id, nx, d)) (h2 : d ≠ 0 ∨ kindOf id = 0) : pgs s (f + 1) L a = ([], 129) := by
  unfold pgs; rw [if_neg h, if_neg h1, hg, if_pos h2]
theorem pgs_dup {s : ByteArray} {f : Nat} {L : List Pp} {a id nx : Int} (h : ¬ (s.size : Int) ≤ a) (h1 : ¬ 64 ≤ L.length) (hg : getV s a = (id, nx, 0)) (h2 : ¬ kindOf id = 0) (h3 : dupL L id = true) : pgs s (f + 1) L a = ([], 130) := by
  unfold pgs; rw [if_neg h, if_neg h1, hg]
  simp only [ne_eq, not_true_eq_false, false_or]
  rw [if_neg h2, if_pos h3]
theorem pgs_rd {s : ByteArray} {f : Nat} {L : List Pp} {a id nx : Int} (h : ¬ (s.size : Int) ≤ a) (h1 : ¬ 64 ≤ L.length) (hg : getV s a = (id, nx, 0)) (h2 : ¬ kindOf id = 0) (h3 : dupL L id = false) :
    pgs s (f + 1) L a = match rdv s id nx with | none => ([], 129) | some (p, tu) => pgs s f (L ++ [p]) tu := by
  show (if (s.size : Int) ≤ a then (L, 0) else if 64 ≤ L.length then ([], 149) else if (getV s a).2.2 ≠ 0 ∨ kindOf (getV s a).1 = 0 then ([], 129) else if dupL L (getV s a).1 = true then ([], 130) else match rdv s (getV s a).1 (getV s a).2.1 with | none => ([], 129) | some (p, tu) => pgs s f (L ++ [p]) tu) = _
  rw [if_neg h, if_neg h1, hg]
  simp only [ne_eq, not_true_eq_false, false_or]
  rw [if_neg h2, if_neg (by rw [h3]; decide)]
theorem getP_code {s : ByteArray} {at_ n f c : Int} (h : getV s at_ = (n, f, c)) (hc : c ≠ 0) : getP s at_ = ([], 0, c) := by unfold getP; rw [h]; simp [hc]
theorem getP_none {s : ByteArray} {at_ n f : Int} (h : getV s at_ = (n, f, 0)) (hn : (s.size : Int) - f < n) : getP s at_ = ([], 0, 242) := by unfold getP; rw [h]; simp [hn]
theorem getP_bad {s : ByteArray} {at_ : Int} {m f : Nat} {L : List Pp} {c : Int} (h : getV s at_ = ((m : Int), (f : Int), 0)) (hn : f + m ≤ s.size) (hr : pgs (s.extract f (f + m)) 66 [] 0 = (L, c)) (hc : c ≠ 0) : getP s at_ = ([], 0, c) := by
  unfold getP; rw [h]
  simp only [ne_eq, not_true_eq_false, if_false, Int.toNat_natCast]
  rw [if_neg (by omega), hr]
  simp [hc]
theorem getP_ok {s : ByteArray} {at_ : Int} {m f : Nat} {L : List Pp} (h : getV s at_ = ((m : Int), (f : Int), 0)) (hn : f + m ≤ s.size) (hr : pgs (s.extract f (f + m)) 66 [] 0 = (L, 0)) : getP s at_ = (L, (f : Int) + m, 0) := by
  unfold getP; rw [h]
  simp only [ne_eq, not_true_eq_false, if_false, Int.toNat_natCast]
  rw [if_neg (by omega), hr]
  simp
theorem pgs_codes (s : ByteArray) : ∀ (f : Nat) (L : List Pp) (a : Int), L.length ≤ 64 → (0 ≤ (pgs s f L a).2 ∧ (pgs s f L a).2 ≤ 149) ∧ (pgs s f L a).1.length ≤ 64
  | 0, L, a, h => ⟨⟨Int.le_refl 0, (by decide : (0 : Int) ≤ 149)⟩, h⟩
  | f + 1, L, a, h => by
    unfold pgs
    split
    · exact ⟨⟨Int.le_refl 0, (by decide : (0 : Int) ≤ 149)⟩, h⟩
    · split
      · exact ⟨⟨by decide, by decide⟩, by decide⟩
      · split
        · exact ⟨⟨by decide, by decide⟩, by decide⟩
        · split
          · exact ⟨⟨by decide, by decide⟩, by decide⟩
          · split
            · exact ⟨⟨by decide, by decide⟩, by decide⟩
            · exact pgs_codes s f _ _ (by rw [List.length_append]; simp; omega)
theorem getP_codes (s : ByteArray) (a : Int) : (0 ≤ (getP s a).2.2 ∧ (getP s a).2.2 ≤ 242) ∧ (getP s a).1.length ≤ 64 := by
  have hv := getV_code s a
  unfold getP
  split
  · exact ⟨hv, by simp⟩
  · split
    · exact ⟨⟨by decide, by decide⟩, by simp⟩
    · have h := pgs_codes (s.extract (getV s a).2.1.toNat ((getV s a).2.1.toNat + (getV s a).1.toNat)) 66 [] 0 (by decide)
      simp only
      split
      · exact ⟨⟨h.1.1, by have := h.1.2; simp only; omega⟩, by simp⟩
      · exact ⟨⟨by simp, by simp⟩, h.2⟩
end Go.Proofs.YtedapgeabpadaaaDoor

/- Plain facts: which properties packets of which kind may have; no program in sight. -/
namespace Go.Proofs.YtedapgeabpadaaaDoor.Pl
/-- The identifiers of the properties that packets of a kind may have. -/
def allowL (k : Int) : List Int :=
  if k = 0 then [1, 2, 3, 8, 9, 24, 38] else
  if k = 1 then [17, 21, 22, 23, 25, 33, 34, 38, 39] else
  if k = 2 then [17, 18, 19, 21, 22, 26, 28, 31, 33, 34, 36, 37, 38, 39, 40, 41, 42] else
  if k = 3 then [1, 2, 3, 8, 9, 11, 35, 38] else
  if k = 4 then [31, 38] else
  if k = 5 then [31, 38] else
  if k = 6 then [31, 38] else
  if k = 7 then [31, 38] else
  if k = 8 then [11, 38] else
  if k = 9 then [31, 38] else
  if k = 10 then [38] else
  if k = 11 then [31, 38] else
  if k = 14 then [17, 28, 31, 38] else
  if k = 15 then [21, 22, 31, 38] else []
/-- May packets of a kind have a property? -/
def alw (k n : Int) : Bool := isIn n (allowL k)
theorem alw_other {k : Int} (n : Int) (h0 : (k == 0) = false) (h1 : (k == 1) = false) (h2 : (k == 2) = false) (h3 : (k == 3) = false) (h4 : (k == 4) = false) (h5 : (k == 5) = false) (h6 : (k == 6) = false) (h7 : (k == 7) = false) (h8 : (k == 8) = false) (h9 : (k == 9) = false) (h10 : (k == 10) = false) (h11 : (k == 11) = false) (h14 : (k == 14) = false) (h15 : (k == 15) = false) : alw k n = false := by
  simp only [beq_eq_false_iff_ne, ne_eq] at *
  unfold alw allowL
  simp [h0, h1, h2, h3, h4, h5, h6, h7, h8, h9, h10, h11, h14, h15, isIn]
theorem isIn_two (n a b : Int) : isIn n [a, b] = (n == a || n == b) := by
  by_cases h : n = a <;> by_cases h2 : n = b <;> simp [isIn, h, h2]
theorem isIn_one (n a : Int) : isIn n [a] = (n == a) := by
  by_cases h : n = a <;> simp [isIn, h]
theorem alw_2 (n : Int) : alw 2 n = (isIn n [17, 18, 19, 21, 22, 26, 28, 31, 33, 34] || (decide (36 ≤ n) && decide (n ≤ 42))) := by
  unfold alw
  show isIn n [17, 18, 19, 21, 22, 26, 28, 31, 33, 34, 36, 37, 38, 39, 40, 41, 42] = _
  by_cases h : 36 ≤ n ∧ n ≤ 42
  · obtain rfl | rfl | rfl | rfl | rfl | rfl | rfl : n = 36 ∨ n = 37 ∨ n = 38 ∨ n = 39 ∨ n = 40 ∨ n = 41 ∨ n = 42 := by omega
    all_goals decide
  · have e : (decide (36 ≤ n) && decide (n ≤ 42)) = false := by
      rw [Bool.and_eq_false_iff]
      simp only [decide_eq_false_iff_not]
      omega
    rw [e, Bool.or_false]
    unfold isIn
    congr 1
    simp only [List.mem_cons, List.not_mem_nil, or_false, eq_iff_iff]
    omega
end Go.Proofs.YtedapgeabpadaaaDoor.Pl

/- The bytes of a packet: plain. -/
namespace Go.Proofs.YtedapgeabpadaaaDoor
set_option linter.unusedVariables false
open Go.RowKit Pl

/-- Bytes so far, and the first code. -/
structure Ot where
  s : ByteArray
  c : Int
def mix (c d : Int) : Int := if c = 0 then d else c
def Ot.add (o : Ot) (t : ByteArray) (d : Int) : Ot := ⟨o.s ++ t, mix o.c d⟩
def Ot.fail (o : Ot) (d : Int) : Ot := ⟨o.s, mix o.c d⟩
theorem mix_bd {c d : Int} (h : 0 ≤ c ∧ c ≤ 255) (h2 : 0 ≤ d ∧ d ≤ 255) : 0 ≤ mix c d ∧ mix c d ≤ 255 := by unfold mix; split; exact h2; exact h
theorem add_empty (o : Ot) (d : Int) : o.add ⟨#[]⟩ d = o.fail d := by
  unfold Ot.add Ot.fail
  congr 1
  apply ByteArray.ext
  rw [ByteArray.data_append]
  simp
def wNum (k : Int) (o : Ot) (n : Int) : Ot := o.add ⟨(fixS k n).toArray⟩ (fixC k n)
def wText (o : Ot) (t : ByteArray) : Ot := o.add (tputS t) (tputC t)
def wData (o : Ot) (t : ByteArray) : Ot := o.add (dataS t) (dataC t)
def wQos (o : Ot) (n : Int) : Ot := if n < 0 ∨ 2 < n then o.fail 129 else o
def wId (o : Ot) (n : Int) : Ot := if n < 1 ∨ 65535 < n then o.fail 130 else wNum 2 o n
/-- Are all properties such as packets of a kind may have? -/
def okAll (k : Int) (L : List Pp) : Bool := !L.any (fun p => !alw k p.id)
def wProps (k : Int) (o : Ot) (L : List Pp) : Ot := if okAll k L = true then o.add (ppS L) (ppC L) else (o.add (ppS L) (ppC L)).fail 130
def wSome (o : Ot) (n : Int) : Ot := if n = 0 then o.fail 130 else if 64 < n then o.fail 149 else o
def bt1 (b : Bool) (n : Int) : Int := if b = true then n else 0
/-- One filter of a SUBSCRIBE. -/
structure Sb where
  f : ByteArray
  q : Int
  nl : Bool
  ap : Bool
  h : Int
structure Pk where
  kind : Int
  dup : Bool
  ret : Bool
  q : Int
  id : Int
  topic : ByteArray
  payload : ByteArray
  code : Int
  codes : List Int
  ps : List Pp
  client : ByteArray
  clean : Bool
  keep : Int
  hasWill : Bool
  wt : ByteArray
  wp : ByteArray
  wq : Int
  wr : Bool
  wps : List Pp
  hasUser : Bool
  hasPass : Bool
  user : ByteArray
  pass : ByteArray
  session : Bool
  subs : List Sb
  filters : List ByteArray
def name5 : ByteArray := ⟨#[77, 81, 84, 84]⟩
def cFlags (p : Pk) : Int := bt1 p.clean 2 + bt1 p.hasPass 64 + bt1 p.hasUser 128 + (if p.hasWill = true then 4 + 8 * (p.wq % 4) + bt1 p.wr 32 else 0)
def cHead (o : Ot) (p : Pk) : Ot := wText (wProps 1 (wNum 2 (wNum 1 (if p.hasWill = true then wQos (wNum 1 (wText o name5) 5) p.wq else wNum 1 (wText o name5) 5) (cFlags p)) p.keep) p.ps) p.client
def cWill (o : Ot) (p : Pk) : Ot := if p.hasWill = true then wData (wText (wProps 0 o p.wps) p.wt) p.wp else o
def cUser (o : Ot) (p : Pk) : Ot := if p.hasUser = true then wText o p.user else o
def cPass (o : Ot) (p : Pk) : Ot := if p.hasPass = true then wData o p.pass else o
def wConnect (o : Ot) (p : Pk) : Ot := cPass (cUser (cWill (cHead o p) p) p) p
def wPublish (o : Ot) (p : Pk) : Ot := (wProps 3 (if 0 < p.q then wId (wText o p.topic) p.id else wText o p.topic) p.ps).add p.payload 0
def wEnd (o : Ot) (p : Pk) : Ot :=
  if p.ps.length = 0 then (if p.code = 0 then o else wNum 1 o p.code) else wProps p.kind (wNum 1 o p.code) p.ps
def sByte (x : Sb) : Int := x.q % 4 + bt1 x.nl 4 + bt1 x.ap 8 + 16 * (x.h % 4)
def wSub (o : Ot) (x : Sb) : Ot := wNum 1 (wQos (wQos (wText o x.f) x.q) x.h) (sByte x)
def wSubs (o : Ot) (l : List Sb) : Ot := (l.take 64).foldl wSub (wSome o l.length)
def wFilters (o : Ot) (l : List ByteArray) : Ot := (l.take 64).foldl wText (wSome o l.length)
/-- The codes: all of them; the document's: as many as may be. -/
def wCodes (o : Ot) (l : List Int) : Ot := l.foldl (wNum 1) (wSome o l.length)
def wCodes' (o : Ot) (l : List Int) : Ot := (l.take 64).foldl (wNum 1) (wSome o l.length)
def wLists (o : Ot) (p : Pk) : Ot :=
  if p.kind = 8 then wSubs (wProps p.kind (wId o p.id) p.ps) p.subs else if p.kind = 10 then wFilters (wProps p.kind (wId o p.id) p.ps) p.filters else wCodes (wProps p.kind (wId o p.id) p.ps) p.codes
def wLists' (o : Ot) (p : Pk) : Ot :=
  if p.kind = 8 then wSubs (wProps p.kind (wId o p.id) p.ps) p.subs else if p.kind = 10 then wFilters (wProps p.kind (wId o p.id) p.ps) p.filters else wCodes' (wProps p.kind (wId o p.id) p.ps) p.codes
def wConnack (o : Ot) (p : Pk) : Ot := wProps 2 (wNum 1 (wNum 1 o (bt1 p.session 1)) p.code) p.ps
def wBody (o : Ot) (p : Pk) : Ot :=
  if p.kind = 1 then wConnect o p else if p.kind = 2 then wConnack o p else if p.kind = 3 then wPublish o p
  else if p.kind = 4 ∨ p.kind = 5 ∨ p.kind = 6 ∨ p.kind = 7 then wEnd (wId o p.id) p
  else if p.kind = 14 ∨ p.kind = 15 then wEnd o p
  else if p.kind = 8 ∨ p.kind = 9 ∨ p.kind = 10 ∨ p.kind = 11 then wLists o p else o
def kFlags (k : Int) : Int := if k = 6 ∨ k = 8 ∨ k = 10 then 2 else 0
def pFlags (p : Pk) : Int := if p.kind = 3 then bt1 p.dup 8 + 2 * (p.q % 4) + bt1 p.ret 1 else kFlags p.kind
/-- What a Publish asks of its flags. -/
def wHead (p : Pk) : Ot := if p.kind = 3 then (if p.dup = true ∧ p.q = 0 then (wQos ⟨⟨#[]⟩, 0⟩ p.q).fail 129 else wQos ⟨⟨#[]⟩, 0⟩ p.q) else ⟨⟨#[]⟩, 0⟩
def wAll (p : Pk) : Ot := wBody (wHead p) p
def pkC (p : Pk) : Int := if p.kind < 1 ∨ 15 < p.kind then 129 else if (wAll p).c ≠ 0 then (wAll p).c else if 65536 < (wAll p).s.size then 149 else 0
def pkS (p : Pk) : ByteArray := if pkC p = 0 then ⟨(fixS 1 (16 * p.kind + pFlags p)).toArray⟩ ++ ⟨(enc (wAll p).s.size).toArray⟩ ++ (wAll p).s else ⟨#[]⟩
/-! Sizes. -/
theorem add_size (o : Ot) (t : ByteArray) (d : Int) : (o.add t d).s.size = o.s.size + t.size := ByteArray.size_append
theorem fail_size (o : Ot) (d : Int) : (o.fail d).s.size = o.s.size := rfl
theorem num_size (k : Int) (o : Ot) (n : Int) : (wNum k o n).s.size ≤ o.s.size + k.toNat := by
  have := fixS_len k n
  unfold wNum
  rw [add_size]
  show o.s.size + (fixS k n).toArray.size ≤ _
  simp; omega
theorem text_size (o : Ot) (t : ByteArray) : (wText o t).s.size ≤ o.s.size + 65537 := by have := tputS_small t; unfold wText; rw [add_size]; omega
theorem data_size (o : Ot) (t : ByteArray) : (wData o t).s.size ≤ o.s.size + 65537 := by have := dataS_small t; unfold wData; rw [add_size]; omega
theorem qos_size (o : Ot) (n : Int) : (wQos o n).s.size = o.s.size := by unfold wQos; split <;> rfl
theorem id_size (o : Ot) (n : Int) : (wId o n).s.size ≤ o.s.size + 2 := by
  unfold wId
  split
  · exact Nat.le_add_right _ _
  · exact num_size 2 o n
theorem ppS_small (L : List Pp) : (ppS L).size ≤ 8389000 := by
  by_cases h64 : 64 < L.length
  · rw [(pp_long h64).2]; decide
  · by_cases hc : codK L L.length = 0
    · rw [(pp_ok h64 hc).2, ByteArray.size_append]
      have := put_small L L.length
      have h2 := enc_small (putK L L.length).size
      show (enc (putK L L.length).size).toArray.size + _ ≤ _
      simp only [List.size_toArray]
      omega
    · rw [(pp_bad h64 rfl hc).2]; decide
theorem props_size (k : Int) (o : Ot) (L : List Pp) : (wProps k o L).s.size ≤ o.s.size + 8389000 := by
  have := ppS_small L
  unfold wProps
  split
  · rw [add_size]; omega
  · rw [fail_size, add_size]; omega
theorem some_size (o : Ot) (n : Int) : (wSome o n).s.size = o.s.size := by
  unfold wSome
  split
  · rfl
  · split <;> rfl
theorem sub_size (o : Ot) (x : Sb) : (wSub o x).s.size ≤ o.s.size + 65538 := by
  have h1 := num_size 1 (wQos (wQos (wText o x.f) x.q) x.h) (sByte x)
  rw [qos_size, qos_size] at h1
  have h2 := text_size o x.f
  unfold wSub
  have : (1 : Int).toNat = 1 := rfl
  omega
/-! Codes. -/
theorem add_bd {o : Ot} {t : ByteArray} {d : Int} (h : 0 ≤ o.c ∧ o.c ≤ 255) (h2 : 0 ≤ d ∧ d ≤ 255) : 0 ≤ (o.add t d).c ∧ (o.add t d).c ≤ 255 := mix_bd h h2
theorem fail_bd {o : Ot} {d : Int} (h : 0 ≤ o.c ∧ o.c ≤ 255) (h2 : 0 ≤ d ∧ d ≤ 255) : 0 ≤ (o.fail d).c ∧ (o.fail d).c ≤ 255 := mix_bd h h2
theorem num_bd {k : Int} {o : Ot} {n : Int} (h : 0 ≤ o.c ∧ o.c ≤ 255) : 0 ≤ (wNum k o n).c ∧ (wNum k o n).c ≤ 255 := add_bd h (by have := fixC_bd k n; omega)
theorem text_bd {o : Ot} {t : ByteArray} (h : 0 ≤ o.c ∧ o.c ≤ 255) : 0 ≤ (wText o t).c ∧ (wText o t).c ≤ 255 := add_bd h (by have := tputC_bd t; omega)
theorem data_bd {o : Ot} {t : ByteArray} (h : 0 ≤ o.c ∧ o.c ≤ 255) : 0 ≤ (wData o t).c ∧ (wData o t).c ≤ 255 := add_bd h (by have := dataC_bd t; omega)
theorem qos_bd {o : Ot} {n : Int} (h : 0 ≤ o.c ∧ o.c ≤ 255) : 0 ≤ (wQos o n).c ∧ (wQos o n).c ≤ 255 := by unfold wQos; split; exact fail_bd h (by decide); exact h
theorem id_bd {o : Ot} {n : Int} (h : 0 ≤ o.c ∧ o.c ≤ 255) : 0 ≤ (wId o n).c ∧ (wId o n).c ≤ 255 := by unfold wId; split; exact fail_bd h (by decide); exact num_bd h
theorem props_bd {k : Int} {o : Ot} {L : List Pp} (h : 0 ≤ o.c ∧ o.c ≤ 255) : 0 ≤ (wProps k o L).c ∧ (wProps k o L).c ≤ 255 := by
  unfold wProps
  split
  · exact add_bd h (ppC_bd L)
  · exact fail_bd (add_bd h (ppC_bd L)) (by decide)
theorem some_bd {o : Ot} {n : Int} (h : 0 ≤ o.c ∧ o.c ≤ 255) : 0 ≤ (wSome o n).c ∧ (wSome o n).c ≤ 255 := by
  unfold wSome
  split
  · exact fail_bd h (by decide)
  · split
    · exact fail_bd h (by decide)
    · exact h
end Go.Proofs.YtedapgeabpadaaaDoor

/- What the bytes of a packet are read as: plain. -/
namespace Go.Proofs.YtedapgeabpadaaaDoor
set_option linter.unusedVariables false
open Go.RowKit Pl Go.PlainAid

/-- What is read, and where it ends; or a code. -/
abbrev RR (α : Type) := Except Int (α × Int)
def bindR {α β : Type} (r : RR α) (k : α → Int → RR β) : RR β := match r with
  | .error c => .error c
  | .ok (v, a) => k v a
def rNum (s : ByteArray) (k a : Int) : RR Int := if (getF s a k).2.2 = 0 then .ok ((getF s a k).1, (getF s a k).2.1) else .error 129
def rText (s : ByteArray) (a : Int) : RR ByteArray := if (tget s a).2.2 = 0 then .ok ((tget s a).1, (tget s a).2.1) else .error 129
def rData (s : ByteArray) (a : Int) : RR ByteArray := if (getD s a).2.2 = 0 then .ok ((getD s a).1, (getD s a).2.1) else .error 129
def rId (s : ByteArray) (a : Int) : RR Int := bindR (rNum s 2 a) fun n a => if n = 0 then .error 130 else .ok (n, a)
def rProps (k : Int) (s : ByteArray) (a : Int) : RR (List Pp) :=
  if (getP s a).2.2 = 242 then .error 129 else if (getP s a).2.2 ≠ 0 then .error (getP s a).2.2 else if okAll k (getP s a).1 = false then .error 130 else .ok ((getP s a).1, (getP s a).2.1)
def sbOf (f : ByteArray) (n : Int) : Sb := ⟨f, n % 4, decide (n / 4 % 2 = 1), decide (n / 8 % 2 = 1), n / 16 % 4⟩
def rSub (s : ByteArray) (a : Int) : RR Sb := bindR (rText s a) fun f a => bindR (rNum s 1 a) fun n a =>
  if ¬ (n % 4 < 3 ∧ n < 64) then .error 129 else if n / 16 % 4 = 3 then .error 130 else .ok (sbOf f n, a)
/-! A CONNECT. -/
def badFl (f : Int) : Prop := ¬ (f % 2 = 0 ∧ f / 8 % 4 < 3 ∧ (f / 4 % 2 = 1 ∨ (f / 8 % 4 = 0 ∧ f / 32 % 2 = 0)))
instance (f : Int) : Decidable (badFl f) := by unfold badFl; infer_instance
def cSet (p : Pk) (f : Int) : Pk := { p with clean := decide (f / 2 % 2 = 1), hasWill := decide (f / 4 % 2 = 1), hasPass := decide (f / 64 % 2 = 1), hasUser := decide (f / 128 % 2 = 1), wq := f / 8 % 4, wr := decide (f / 32 % 2 = 1) }
def rPass (s : ByteArray) (p : Pk) (a : Int) : RR Pk := if p.hasPass = true then bindR (rData s a) fun d a => .ok ({ p with pass := d }, a) else .ok (p, a)
def rUser (s : ByteArray) (p : Pk) (a : Int) : RR Pk := if p.hasUser = true then bindR (rText s a) fun t a => rPass s { p with user := t } a else rPass s p a
def rWill (s : ByteArray) (p : Pk) (a : Int) : RR Pk := if p.hasWill = true then bindR (rProps 0 s a) fun l a => bindR (rText s a) fun t a => bindR (rData s a) fun d a => rUser s { p with wps := l, wt := t, wp := d } a else rUser s p a
def rKeep (s : ByteArray) (p : Pk) (a : Int) : RR Pk := bindR (rNum s 2 a) fun n a => bindR (rProps 1 s a) fun l a => bindR (rText s a) fun t a => rWill s { p with keep := n, ps := l, client := t } a
def rConn (s : ByteArray) (p : Pk) (a : Int) : RR Pk := bindR (rText s a) fun t a => if t ≠ name5 then .error 129 else
  bindR (rNum s 1 a) fun v a => if v ≠ 5 then .error 132 else bindR (rNum s 1 a) fun f a => if badFl f then .error 129 else rKeep s (cSet p f) a
/-! The others. -/
def rConnack (s : ByteArray) (p : Pk) (a : Int) : RR Pk := bindR (rNum s 1 a) fun n a => if ¬ n < 2 then .error 129 else bindR (rNum s 1 a) fun c a => bindR (rProps 2 s a) fun l a => .ok ({ p with session := decide (n = 1), code := c, ps := l }, a)
def rPayl (s : ByteArray) (p : Pk) (a : Int) : RR Pk := bindR (rProps 3 s a) fun l a => .ok ({ p with ps := l, payload := s.extract a.toNat s.size }, s.size)
def rPub (s : ByteArray) (p : Pk) (a : Int) : RR Pk := bindR (rText s a) fun t a => if 0 < p.q then bindR (rId s a) fun n a => rPayl s { p with topic := t, id := n } a else rPayl s { p with topic := t } a
def rEndP (s : ByteArray) (p : Pk) (a : Int) : RR Pk := if a < s.size then bindR (rProps p.kind s a) fun l a => .ok ({ p with ps := l }, a) else .ok (p, a)
def rEnd (s : ByteArray) (p : Pk) (a : Int) : RR Pk := if a < s.size then bindR (rNum s 1 a) fun c a => rEndP s { p with code := c } a else rEndP s p a
def rAck (s : ByteArray) (p : Pk) (a : Int) : RR Pk := bindR (rId s a) fun n a => rEnd s { p with id := n } a
/-- One item of a list. -/
def rItem (s : ByteArray) (p : Pk) (a : Int) : RR Pk :=
  if p.kind = 8 then bindR (rSub s a) fun x a => .ok ({ p with subs := p.subs ++ [x] }, a)
  else if p.kind = 10 then bindR (rText s a) fun x a => .ok ({ p with filters := p.filters ++ [x] }, a)
  else bindR (rNum s 1 a) fun x a => .ok ({ p with codes := p.codes ++ [x] }, a)
/-- f items more may stand there. -/
def rItems (s : ByteArray) : Nat → Pk → Int → RR Pk
  | 0, p, a => if a < s.size then .error 149 else .ok (p, a)
  | f + 1, p, a => if a < s.size then bindR (rItem s p a) fun p a => rItems s f p a else .ok (p, a)
def rLists (s : ByteArray) (p : Pk) (a : Int) : RR Pk := bindR (rId s a) fun n a => bindR (rProps p.kind s a) fun l a => if a < s.size then rItems s 64 { p with id := n, ps := l } a else .error 130
def rKind (s : ByteArray) (p : Pk) (a : Int) : RR Pk :=
  if p.kind = 1 then rConn s p a else if p.kind = 2 then rConnack s p a else if p.kind = 3 then rPub s p a
  else if p.kind = 4 ∨ p.kind = 5 ∨ p.kind = 6 ∨ p.kind = 7 then rAck s p a
  else if p.kind = 14 ∨ p.kind = 15 then rEnd s p a
  else if p.kind = 8 ∨ p.kind = 9 ∨ p.kind = 10 ∨ p.kind = 11 then rLists s p a else .ok (p, a)
def rBody (s : ByteArray) (p : Pk) (a : Int) : RR Pk := bindR (rKind s p a) fun p a => if a < s.size then .error 129 else .ok (p, a)
def zPk : Pk := ⟨0, false, false, 0, 0, ⟨#[]⟩, ⟨#[]⟩, 0, [], [], ⟨#[]⟩, false, 0, false, ⟨#[]⟩, ⟨#[]⟩, 0, false, [], false, false, ⟨#[]⟩, ⟨#[]⟩, false, [], []⟩
/-- What a head byte gives. -/
def hdO (b : Int) : Option Pk :=
  if b / 16 = 0 then none
  else if b / 16 = 3 then (if b / 2 % 4 < 3 ∧ (b / 8 % 2 = 0 ∨ 0 < b / 2 % 4) then some { zPk with kind := 3, dup := decide (b / 8 % 2 = 1), q := b / 2 % 4, ret := decide (b % 2 = 1) } else none)
  else if b % 16 = kFlags (b / 16) then some { zPk with kind := b / 16 } else none
def pkGet (s : ByteArray) : Pk × Int :=
  if s.size = 0 then (zPk, 242) else match hdO (bt s 0) with
  | none => (zPk, 129)
  | some p =>
    if (getV s 1).2.2 ≠ 0 then (zPk, (getV s 1).2.2) else if 65536 < (getV s 1).1 then (zPk, 149)
    else if (s.size : Int) - (getV s 1).2.1 < (getV s 1).1 then (zPk, 242) else if (s.size : Int) - (getV s 1).2.1 ≠ (getV s 1).1 then (zPk, 129)
    else match rBody (s.extract (getV s 1).2.1.toNat s.size) p 0 with
    | .error c => (zPk, c)
    | .ok (q, _) => (q, 0)
/-! How far is read. -/
theorem getF_at {s : ByteArray} {a k : Int} (h : (getF s a k).2.2 = 0) : 0 ≤ a ∧ a ≤ (getF s a k).2.1 ∧ (getF s a k).2.1 ≤ s.size ∧ (getF s a k).2.1 = a + k ∧ Wide k := by
  unfold getF at h ⊢
  split at h
  · simp at h
  · rename_i h1
    split at h
    · simp at h
    · rename_i h2
      have hw : Wide k := Classical.byContradiction fun c => h1 (.inl c)
      have h3 : 0 ≤ a := Int.not_lt.1 fun c => h1 (.inr (.inl c))
      have hk : 0 < k := by unfold Wide at hw; omega
      rw [if_neg h1, if_neg h2]
      simp only
      exact ⟨h3, by omega, by omega, trivial, hw⟩
theorem getD_at {s : ByteArray} {a : Int} (h : (getD s a).2.2 = 0) : 0 ≤ a ∧ a ≤ (getD s a).2.1 ∧ (getD s a).2.1 ≤ s.size := by
  rcases getF_two s a with hf | hf | ⟨b, m, rfl, hf, hm, hb⟩
  · unfold getD at h; rw [hf] at h; simp at h
  · unfold getD at h; rw [hf] at h; simp at h
  · unfold getD at h ⊢
    rw [hf] at h ⊢
    simp only [ne_eq, not_true_eq_false, if_false] at h ⊢
    split at h
    · simp at h
    · rename_i h2
      rw [if_neg h2]
      simp only
      omega
theorem tget_at {s : ByteArray} {a : Int} (h : (tget s a).2.2 = 0) : 0 ≤ a ∧ a ≤ (tget s a).2.1 ∧ (tget s a).2.1 ≤ s.size := by
  unfold tget at h ⊢
  split at h
  · rename_i h1; exact absurd h h1
  · rename_i h1
    split at h
    · simp at h
    · rename_i h2
      rw [if_neg h1, if_neg h2]
      exact getD_at h
theorem rNum_at {s : ByteArray} {k a n b : Int} (h : rNum s k a = .ok (n, b)) : a ≤ b ∧ b ≤ s.size ∧ 0 ≤ a := by
  unfold rNum at h
  split at h
  · rename_i h1; cases h; have := getF_at h1; exact ⟨this.2.1, this.2.2.1, this.1⟩
  · cases h
theorem rText_at {s : ByteArray} {a b : Int} {t : ByteArray} (h : rText s a = .ok (t, b)) : a ≤ b ∧ b ≤ s.size ∧ 0 ≤ a := by
  unfold rText at h
  split at h
  · rename_i h1; cases h; have := tget_at h1; exact ⟨this.2.1, this.2.2, this.1⟩
  · cases h
theorem rData_at {s : ByteArray} {a b : Int} {t : ByteArray} (h : rData s a = .ok (t, b)) : a ≤ b ∧ b ≤ s.size ∧ 0 ≤ a := by
  unfold rData at h
  split at h
  · rename_i h1; cases h; have := getD_at h1; exact ⟨this.2.1, this.2.2, this.1⟩
  · cases h
end Go.Proofs.YtedapgeabpadaaaDoor

/- Worlds in which named blocks alone have turned; a block known whole. Over whatever program. -/
namespace Go.Proofs.YtedapgeabpadaaaDoor
set_option linter.unusedVariables false
open Go.RowKit

/-- Of what was there, only blocks in S have turned. -/
structure Mod (S : Nat → Prop) (w w' : World) : Prop where
  os : w'.os = w.os
  tape : w'.tape = w.tape
  output : w'.output = w.output
  size : w.heap.size ≤ w'.heap.size
  block : ∀ k, k < w.heap.size → ¬ S k → w'.heap[k]? = w.heap[k]?
theorem Mod.refl (S : Nat → Prop) (w : World) : Mod S w w := ⟨rfl, rfl, rfl, Nat.le_refl _, fun _ _ _ => rfl⟩
theorem Mod.trans {S : Nat → Prop} {a b c : World} (h : Mod S a b) (k : Mod S b c) : Mod S a c :=
  ⟨k.os.trans h.os, k.tape.trans h.tape, k.output.trans h.output, Nat.le_trans h.size k.size, fun i hi hs => (k.block i (Nat.lt_of_lt_of_le hi h.size) hs).trans (h.block i hi hs)⟩
theorem Mod.weaken {S S' : Nat → Prop} {a b : World} (h : Mod S a b) (hs : ∀ k, k < a.heap.size → S k → S' k) : Mod S' a b :=
  ⟨h.os, h.tape, h.output, h.size, fun i hi hn => h.block i hi (fun c => hn (hs i hi c))⟩
/-- What turned later in blocks that are new counts for nothing. -/
theorem Mod.then {S S' : Nat → Prop} {a b c : World} (h : Mod S a b) (k : Mod S' b c) (hs : ∀ i, i < a.heap.size → S' i → S i) : Mod S a c :=
  ⟨k.os.trans h.os, k.tape.trans h.tape, k.output.trans h.output, Nat.le_trans h.size k.size, fun i hi hn => (k.block i (Nat.lt_of_lt_of_le hi h.size) (fun c => hn (hs i hi c))).trans (h.block i hi hn)⟩
theorem Mod.of_below {S : Nat → Prop} {a b : World} (h : Below a.heap.size a b) : Mod S a b := ⟨h.os, h.tape, h.output, h.size, fun i hi _ => h.block i hi⟩
theorem Mod.below {S : Nat → Prop} {a b : World} {B : Nat} (h : Mod S a b) (hB : B ≤ a.heap.size) (hs : ∀ k, S k → B ≤ k) : Below B a b := ⟨h.os, h.tape, h.output, h.size, fun i hi => h.block i (Nat.lt_of_lt_of_le hi hB) (fun c => Nat.not_lt.2 (hs i c) hi)⟩
theorem Mod.add {S : Nat → Prop} {a b c : World} (h : Mod S a b) (k : Below b.heap.size b c) : Mod S a c := h.trans (Mod.of_below k)
theorem Mod.drew {S : Nat → Prop} {a b : World} (h : Mod S a b) : Mod S a b.drew := h.trans ⟨rfl, rfl, rfl, Nat.le_refl _, fun _ _ _ => rfl⟩
theorem Mod.alloc {S : Nat → Prop} {a b : World} (h : Mod S a b) (o : Obj) : Mod S a (b.alloc o) := h.add ((Below.refl _ _).alloc (Nat.le_refl _) o)
theorem Mod.setCell {S : Nat → Prop} {a b : World} (h : Mod S a b) {p : Addr} (hp : S p.block ∨ a.heap.size ≤ p.block) (u : Value) : Mod S a (b.setCell p u) :=
  ⟨h.os, h.tape, h.output, by simpa [World.setCell] using h.size, fun i hi hn => (Below.heap_setCell _ _ _ _ (fun e => by subst e; rcases hp with c | c; exact hn c; omega)).trans (h.block i hi hn)⟩
theorem Mod.grown {S : Nat → Prop} {a b c : World} {row : Option Nat} (h : Mod S a b) (hg : b.grownBy c row) (hr : ∀ k, row = some k → S k ∨ a.heap.size ≤ k) : Mod S a c :=
  ⟨hg.os.trans h.os, hg.tape.trans h.tape, hg.output.trans h.output, Nat.le_trans h.size hg.size, fun i hi hn => (hg.block i (Nat.lt_of_lt_of_le hi h.size) (fun e => by rcases hr i e.symm with c | c; exact hn c; omega)).trans (h.block i hi hn)⟩
theorem Mod.cell {S : Nat → Prop} {w w' : World} (h : Mod S w w') {p : Addr} (hp : p.block < w.heap.size) (hs : ¬ S p.block) : w'.cell? p = w.cell? p := World.cell?_of_block (w := w) (h.block p.block hp hs)

/-- A block of cells, known whole. -/
def Blk (w : World) (R : Nat) (cs : Array Value) (T : TypeId) : Prop := w.heap[R]? = some (.cells cs T (0, 0))
theorem Blk.lt {w : World} {R : Nat} {cs : Array Value} {T : TypeId} (h : Blk w R cs T) : R < w.heap.size := by
  rcases Nat.lt_or_ge R w.heap.size with c | c
  · exact c
  · unfold Blk at h; simp [Array.getElem?_eq_none c] at h
theorem Blk.cell {w : World} {R : Nat} {cs : Array Value} {T : TypeId} (h : Blk w R cs T) (j : Nat) : w.cell? ⟨R, j, none⟩ = cs[j]? := Lib.cell_of_heap h j
theorem Blk.frozen {w : World} {R : Nat} {cs : Array Value} {T : TypeId} (h : Blk w R cs T) (j : Nat) : w.frozen? ⟨R, j, none⟩ = false := Lib.frozen_of_heap h j
theorem Blk.new (w : World) (cs : Array Value) (T : TypeId) : Blk (w.alloc (.cells cs T)) w.heap.size cs T := by
  unfold Blk
  show (w.heap.push (.cells cs T))[w.heap.size]? = _
  rw [Array.getElem?_push, if_pos rfl]
theorem Blk.of_below {w w' : World} {R : Nat} {cs : Array Value} {T : TypeId} (h : Blk w R cs T) (hb : Below w.heap.size w w') : Blk w' R cs T := (hb.block R h.lt).trans h
theorem Blk.of_below' {w w' : World} {R B : Nat} {cs : Array Value} {T : TypeId} (h : Blk w R cs T) (hb : Below B w w') (hB : R < B) : Blk w' R cs T := (hb.block R hB).trans h
theorem Blk.mod {S : Nat → Prop} {w w' : World} {R : Nat} {cs : Array Value} {T : TypeId} (h : Blk w R cs T) (hm : Mod S w w') (hs : ¬ S R) : Blk w' R cs T := (hm.block R h.lt hs).trans h
theorem Blk.drew {w : World} {R : Nat} {cs : Array Value} {T : TypeId} (h : Blk w R cs T) : Blk w.drew R cs T := h
theorem Blk.alloc {w : World} {R : Nat} {cs : Array Value} {T : TypeId} (h : Blk w R cs T) (o : Obj) : Blk (w.alloc o) R cs T := h.of_below ((Below.refl _ _).alloc (Nat.le_refl _) o)
theorem Blk.set {w : World} {R : Nat} {cs : Array Value} {T : TypeId} (h : Blk w R cs T) (i : Nat) (v : Value) : Blk (w.setCell ⟨R, i, none⟩ v) R (cs.setIfInBounds i v) T := by
  unfold Blk at h ⊢
  simp only [World.setCell, Array.getElem?_modify]
  rw [h]
  simp
theorem Blk.other {w : World} {R R' : Nat} {cs : Array Value} {T : TypeId} (h : Blk w R cs T) (hn : R ≠ R') (i : Nat) (v : Value) : Blk (w.setCell ⟨R', i, none⟩ v) R cs T :=
  (Below.heap_setCell _ _ _ _ hn).trans h
theorem Blk.grown {w w' : World} {R : Nat} {cs : Array Value} {T : TypeId} {row : Option Nat} (h : Blk w R cs T) (hg : w.grownBy w' row) (hr : row ≠ some R) : Blk w' R cs T := (hg.block R h.lt (fun e => hr e.symm)).trans h
/-- What a call owns stays owned where its own row has not turned. -/
theorem own_mod {S : Nat → Prop} {w w' : World} {base n size : Nat} {e : TypeId} {v : Value} {xs : List Value} (h : w.ownsRow base e size v n xs) (hm : Mod S w w') (hs : ∀ g, v.ownBlock = some g → ¬ S g) : w'.ownsRow base e size v n xs := by
  refine ⟨h.1, ?_⟩
  rcases h.2 with h0 | ⟨g, cap, cur, rfl, hg, hh, hrest⟩
  · exact .inl h0
  · exact .inr ⟨g, cap, cur, rfl, hg, (hm.block g (h.lt g rfl).2 (hs g rfl)).trans hh, hrest⟩
/-- .. nor its block one of another type. -/
theorem own_ne {w : World} {B : Nat} {e T : TypeId} {v : Value} {n size : Nat} {xs : List Value} {b : Nat} {cs : Array Value} (hown : w.ownsRow B e size v n xs) (hb : Blk w b cs T) (hTe : T ≠ e) : v.ownBlock ≠ some b := by
  rcases hown.2 with ⟨rfl, _⟩ | ⟨g, cap, cur, rfl, _, hg, _⟩
  · simp [Value.ownBlock]
  · intro hc
    simp only [Value.ownBlock, Option.some.injEq] at hc
    subst hc
    unfold Blk at hb
    rw [hb] at hg
    injection hg with hg
    injection hg with _ h2 _
    exact hTe h2
/-- A block that is read whole. -/
theorem load_blk {P : Program} {w : World} {R : Nat} {cs : Array Value} {t : TypeId} (h : Blk w R cs t) (n : Nat) (hn : cs.size = n) : (loadCellsFrom ⟨R, 0, none⟩ 0 n #[]).run P w = .ok cs w := by
  subst hn
  have := run_loadCells_list (P := P) w ⟨R, 0, none⟩ cs.toList (World.news_of_block h)
  simpa [loadCells] using this
/-- 'xs = append(xs, u)': one element whose cells lie in a block of their own. -/
theorem wpList_pushB {P : Program} {w : World} {ops : Array Oper} {rest : List Oper} {o : Oper} {a : Act} {Q : Exit → Act → World → Prop} (s x : Operand) (t e : TypeId) (i : TypeInfo) (z : Value) (size bytes C : Nat) (cs : Array Value)
    (hgd : o.guard = none) (ho : o.op = .call { callee := .builtin .append, args := #[s, x], argTypes := #[t, t] })
    (ht : P.underlying t = some (.slice e)) (hi : P.info? e = some i) (hz : i.zero = some z) (hsize : i.size = size) (hby : i.bytes = bytes) (hzs : z.cells.size = size) (hsz : 0 < size) (hcl : cs.size = size) (h1 : ∀ u ∈ cs.toList, u.oneCell' = true)
    (B : Nat) (v : Value) (n : Nat) (xs : List Value) (hs : a.eval s = v) (hx : a.eval x = .slice (some ⟨C, 0, none⟩) 1 1)
    (hown : w.ownsRow B e size v n xs) (hb : Blk w C cs e) (hB : B ≤ w.heap.size) (h63 : n + 1 ≤ maxLen) (hbytes : (n + 1) * bytes ≤ 140737488355328)
    (h : ∀ v' w', w'.ownsRow B e size v' (n + 1) (xs ++ cs.toList) → w.grownBy w' v.ownBlock → wpList P ops Q rest (a.put o.dst v') w') :
    wpList P ops Q (o :: rest) a w :=
  wpList_append_own w hgd s x t ho B e i z size bytes ht hi hz hsize hby hzs hsz v n xs hs hown ⟨C, 0, none⟩ 1 1 cs.toList hx (by simpa using hcl) (World.news_of_block hb) h1 h63 hbytes hB (fun v' w' h2 h3 _ => h v' w' h2 h3)
end Go.Proofs.YtedapgeabpadaaaDoor

/- The tables of utf8 stand where other blocks turn. -/
namespace Go.Proofs.YtedapgeabpadaaaDoor
set_option linter.unusedVariables false
open Go.RowKit

/-- A block that is none of the tables. -/
def NoTab (R : Nat) : Prop := R ≠ 0 ∧ R ≠ 1
theorem cell_lt {w : World} {a : Addr} {v : Value} (hc : w.cell? a = some v) : a.block < w.heap.size := by
  rcases Nat.lt_or_ge a.block w.heap.size with h' | h'
  · exact h'
  · simp [World.cell?, Array.getElem?_eq_none h'] at hc
theorem tabs_lt {w : World} (h : Tabs w) : 0 < w.heap.size ∧ 1 < w.heap.size := ⟨cell_lt (h.1 0 (by decide)), cell_lt (h.2 0 (by decide)).1⟩
theorem NoTab.new {w : World} {R : Nat} (h : Tabs w) (hR : w.heap.size ≤ R) : NoTab R := by
  have := tabs_lt h
  exact ⟨by omega, by omega⟩
theorem tabs_keep {w w' : World} {S : Nat → Prop} (h : Tabs w) (m : Mod S w w') (hs : ∀ R, S R → NoTab R) : Tabs w' :=
  ⟨fun c hc => (m.cell (cell_lt (h.1 c hc)) (fun c => (hs _ c).1 rfl)).trans (h.1 c hc), fun i hi => ⟨(m.cell (cell_lt (h.2 i hi).1) (fun c => (hs _ c).2 rfl)).trans (h.2 i hi).1, (m.cell (cell_lt (h.2 i hi).2) (fun c => (hs _ c).2 rfl)).trans (h.2 i hi).2⟩⟩
theorem tabs_mod {w w' : World} {R : Nat} (h : Tabs w) (m : Mod (· = R) w w') (hs : NoTab R) : Tabs w' := tabs_keep h m (fun _ e => e ▸ hs)
theorem tabs_set {w : World} (h : Tabs w) {p : Addr} (hs : NoTab p.block) (v : Value) : Tabs (w.setCell p v) := tabs_mod (R := p.block) h ((Mod.refl (· = p.block) w).setCell (.inl rfl) v) hs
end Go.Proofs.YtedapgeabpadaaaDoor
