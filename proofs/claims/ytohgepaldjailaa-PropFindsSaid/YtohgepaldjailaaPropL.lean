/- PropFinds: the law's walk. -/
import Derived.Test.YtohgepaldjailaaPropG
import Derived.Test.YtohgepaldjailaaPropArg
import Derived.BigQuiet
import Derived.Deep.QuietTactic
namespace Go.Proofs.Ytohgepaldjailaa
set_option linter.unusedVariables false
open Go.RowKit

/-- A row of strings, from an offset on. -/
def RowO (w : World) (A : Option Addr) (L : List ByteArray) : Prop := 0 < L.length → ∃ b o, A = some ⟨b, o, none⟩ ∧ b < w.heap.size ∧ ∀ i x, L[i]? = some x → w.cell? ⟨b, o + i, none⟩ = some (.string x)
theorem RowO.below {w w' : World} {A : Option Addr} {L : List ByteArray} (h : RowO w A L) (hb : Below w.heap.size w w') : RowO w' A L := fun hp => by
  obtain ⟨b, o, e, h1, h2⟩ := h hp
  exact ⟨b, o, e, Nat.lt_of_lt_of_le h1 hb.size, fun i x hx => (hb.cell (p := ⟨b, o + i, none⟩) h1).trans (h2 i x hx)⟩
theorem own_rowo {w : World} {base m : Nat} {e : TypeId} {v : Value} {ss : List ByteArray} (h : w.ownsRow base e 1 v m (ss.map Value.string)) (hm : m = ss.length) : ∃ A cap, v = .slice A m cap ∧ m ≤ cap ∧ RowO w A ss := by
  subst hm
  rcases h.2 with ⟨rfl, h0⟩ | ⟨g, cap, cur, rfl, _, hh, hnc, _⟩
  · exact ⟨none, 0, by rw [h0], by omega, fun hp => absurd hp (by omega)⟩
  · refine ⟨_, cap, rfl, hnc, fun _ => ⟨g, 0, rfl, (h.lt g rfl).2, fun k x hx => ?_⟩⟩
    have hk := (List.getElem?_eq_some_iff.1 hx).1
    rw [Nat.zero_add, h.cellAt k (by omega), List.getElem?_map, hx]; rfl
theorem pp_cells {w : World} {B : Nat} {p : Pp} {e : TypeId} (X : World) (hb : Below (w.heap.size + 1) (w.alloc (.cells (ppA p) e)) X) (hB : B = w.heap.size) : S4b X B p := by
  subst hB
  have c : ∀ i, X.cell? ⟨w.heap.size, i, none⟩ = (ppA p)[i]? := fun i => (hb.cell (p := ⟨w.heap.size, i, none⟩) (by simp)).trans (World.cell?_alloc_at _ _ _ _ rfl)
  exact ⟨c 0, c 1, c 2, c 3⟩
theorem one_row (w : World) (e : TypeId) (p : Pp) : PRow (w.alloc (.cells (ppA p) e)) (some ⟨w.heap.size, 0, none⟩) [p] := fun _ => by
  refine ⟨_, _, rfl, by simp, fun i q hq => ?_⟩
  match i, hq with
  | 0, hq =>
    obtain rfl : p = q := by simpa using hq
    exact ⟨World.cell?_alloc_at _ _ _ _ rfl, World.cell?_alloc_at _ _ _ _ rfl, World.cell?_alloc_at _ _ _ _ rfl, World.cell?_alloc_at _ _ _ _ rfl⟩
  | i + 1, hq => simp at hq
theorem s4b_below {X Y : World} {B : Nat} {p : Pp} (h : S4b X B p) (hB : B < X.heap.size) (hb : Below X.heap.size X Y) : S4b Y B p :=
  ⟨(hb.cell (p := ⟨B, 0, none⟩) hB).trans h.1, (hb.cell (p := ⟨B, 1, none⟩) hB).trans h.2.1, (hb.cell (p := ⟨B, 2, none⟩) hB).trans h.2.2.1, (hb.cell (p := ⟨B, 3, none⟩) hB).trans h.2.2.2⟩
def p7 : Pp := ⟨7, 0, ⟨#[]⟩, ⟨#[]⟩⟩

set_option maxRecDepth 100000 in
set_option maxHeartbeats 4000000 in
theorem finds_core (A : Option Addr) (n cap : Nat) (L : List Pp) (id : Int) (N : ByteArray) (w : World) (hn : L.length = n) (hc : n ≤ cap) (hcm : cap ≤ maxLen) (h : PRow w A L) (hA : (A = none ∧ cap = 0) ∨ ∃ a, A = some a) :
    Calls Try.prog 3 #[.slice A n cap, .int .i64 id, .string N] w fun e w' => e = .returned (.bool true) ∧ Below w.heap.size w w' := by
  obtain ⟨M, hM⟩ : ∃ M, min n 80 = M := ⟨_, rfl⟩
  have hM80 : M ≤ 80 := by omega
  have CP := Lib.hid (props_any A n cap M L w hn hc hcm h hM hA)
  have hl : (L.take M).length = M := by rw [List.length_take]; omega
  obtain ⟨T, hT⟩ : ∃ T, L.take M = T := ⟨_, rfl⟩
  rw [hT] at CP hl
  have HL := Lib.hid hl
  obtain ⟨R, hR⟩ : ∃ R, fnd T id = R := ⟨_, rfl⟩
  have CF : ∀ (A1 : Option Addr) (c1 : Nat) (X : World), PRow X A1 T → Calls Try.prog 5 #[.slice A1 M c1, .int .i64 id] X fun e w' => e = .returned (.tuple #[ppV (R.getD zP), .bool R.isSome]) ∧ Below X.heap.size X w' := fun A1 c1 X hp => by rw [← hR]; exact find_any A1 M c1 T id X hl (by omega) hp
  have CR : ∀ (A1 : Option Addr) (c1 : Nat) (X : World), PRow X A1 T → Calls Try.prog 6 #[.slice A1 M c1, .int .i64 id] X fun e w' => e = .returned (.tuple #[ppV (R.getD zP), .bool R.isSome]) ∧ Below X.heap.size X w' := fun A1 c1 X hp => by rw [← hR]; exact reffind_any A1 M c1 T id X hl (by omega) hp
  obtain ⟨U, hU⟩ : ∃ U, usr T N = U := ⟨_, rfl⟩
  obtain ⟨m, hm⟩ : ∃ m, U.length = m := ⟨_, rfl⟩
  have CU : ∀ (A1 : Option Addr) (c1 : Nat) (X : World), PRow X A1 T → Calls Try.prog 7 #[.slice A1 M c1, .string N] X fun e w' => ∃ v, e = .returned v ∧ w'.ownsRow X.heap.size 9 1 v m (U.map Value.string) ∧ Below X.heap.size X w' := fun A1 c1 X hp => by rw [← hm, ← hU]; exact users_any A1 M c1 T N X hl (by omega) hp
  have CV : ∀ (A1 : Option Addr) (c1 : Nat) (X : World), PRow X A1 T → Calls Try.prog 8 #[.slice A1 M c1, .string N] X fun e w' => ∃ v, e = .returned v ∧ w'.ownsRow X.heap.size 9 1 v m (U.map Value.string) ∧ Below X.heap.size X w' := fun A1 c1 X hp => by rw [← hm, ← hU]; exact refusers_any A1 M c1 T N X hl (by omega) hp
  have hml : m ≤ 80 := by
    rw [← hm, ← hU]
    have := usr_len T N M
    rw [List.take_of_length_le (by omega)] at this
    omega
  obtain ⟨⟨pi, pn, ps, pt⟩, hp⟩ : ∃ p, R.getD zP = p := ⟨_, rfl⟩
  obtain ⟨ok, hok⟩ : ∃ ok, R.isSome = ok := ⟨_, rfl⟩
  rw [hp, hok] at CF CR
  unfold ppV ppA at CF CR
  have C7 : ∀ X : World, Calls Try.prog 5 #[.slice (some ⟨X.heap.size, 0, none⟩) 1 1, .int .i64 7] (X.alloc (.cells (ppA p7) 28)) fun e w' => e = .returned (.tuple #[.agg #[.int .i64 7, .int .i64 0, .string ⟨#[]⟩, .string ⟨#[]⟩], .bool true]) ∧ Below (X.alloc (.cells (ppA p7) 28)).heap.size (X.alloc (.cells (ppA p7) 28)) w' := fun X => find_any (some ⟨X.heap.size, 0, none⟩) 1 1 [p7] 7 _ rfl (by omega) (one_row X _ p7)
  have CF := Lib.hid CF
  have CR := Lib.hid CR
  have CU := Lib.hid CU
  have CV := Lib.hid CV
  have C7 := Lib.hid C7
  have HM := Lib.hid hm
  clear hn hc hcm h hA hM hl hT hR hU hm hp hok
  go_enter Try.func3, Try.ntmps3
  go_wp2_with fail
  refine CP.out.mono ?_
  rintro e w1 ⟨v1, v2, rfl, own1, own2, b1⟩
  obtain ⟨A1, c1, rfl, _, r1⟩ := own_prow own1 HL.out.symm
  obtain ⟨A2, c2, rfl, _, r2⟩ := own_prow own2 HL.out.symm
  have B1 := Lib.hid b1
  have R1 := Lib.hid r1
  have R2 := Lib.hid r2
  clear own1 own2 b1 r1 r2
  go_wp2_with fail
  refine (CF.out _ _ _ R1.out).mono ?_
  rintro e w2 ⟨rfl, b2⟩
  have hb2 := b2.alloc b2.size (.cells (ppA ⟨pi, pn, ps, pt⟩) 28)
  have R1 := Lib.hid (R1.out.below hb2)
  have R2 := Lib.hid (R2.out.below hb2)
  have B2 := Lib.hid (B1.out.trans (hb2.mono B1.out.size))
  clear b2
  go_wp2_with fail
  refine (CR.out _ _ _ R2.out).mono ?_
  rintro e w3 ⟨rfl, b3⟩
  have hb3 := b3.alloc b3.size (.cells (ppA ⟨pi, pn, ps, pt⟩) 31)
  have S9 := Lib.hid (pp_cells (p := ⟨pi, pn, ps, pt⟩) _ (by have h := hb3; simp at h; exact h) rfl)
  have z2 : w2.heap.size < w3.heap.size := by have := b3.size; simp at this; omega
  have S11 : Hid (S4b (w3.alloc (.cells (ppA ⟨pi, pn, ps, pt⟩) 31)) w3.heap.size ⟨pi, pn, ps, pt⟩) := Lib.hid ⟨World.cell?_alloc_at _ _ _ _ rfl, World.cell?_alloc_at _ _ _ _ rfl, World.cell?_alloc_at _ _ _ _ rfl, World.cell?_alloc_at _ _ _ _ rfl⟩
  have R1 := Lib.hid (R1.out.below hb3)
  have R2 := Lib.hid (R2.out.below hb3)
  have B3 := Lib.hid (B2.out.trans (hb3.mono B2.out.size))
  clear b3 hb3 hb2
  go_wp2_with fail
  have zz3 : w3.heap.size < (w3.alloc (.cells (ppA ⟨pi, pn, ps, pt⟩) 31)).heap.size := by simp
  obtain ⟨W3, hW3⟩ : ∃ W, w3.alloc (.cells (ppA ⟨pi, pn, ps, pt⟩) 31) = W := ⟨_, rfl⟩
  rw [hW3] at S9 S11 R1 R2 B3 zz3
  have hW3' : w3.alloc (.cells #[.int .i64 pi, .int .i64 pn, .string ps, .string pt] 31) = W3 := hW3
  (try rw [hW3'])
  refine (CU.out _ _ _ R1.out).mono ?_
  rintro e w4 ⟨v3, rfl, o3, b4⟩
  obtain ⟨A3, c3, rfl, _, q3⟩ := own_rowo o3 HM.out.symm
  have Q3 := Lib.hid q3
  have R2 := Lib.hid (R2.out.below b4)
  have S9 := Lib.hid (s4b_below S9.out (by omega) b4)
  have S11 := Lib.hid (s4b_below S11.out (by omega) b4)
  have B4 := Lib.hid (B3.out.trans (b4.mono B3.out.size))
  have z4 : w3.heap.size < w4.heap.size := Nat.lt_of_lt_of_le zz3 b4.size
  clear o3 b4 q3 hW3 hW3' zz3
  go_wp2_with fail
  refine (CV.out _ _ _ R2.out).mono ?_
  rintro e w5 ⟨v4, rfl, o4, b5⟩
  obtain ⟨A4, c4, rfl, _, q4⟩ := own_rowo o4 HM.out.symm
  have Q3 := Lib.hid (Q3.out.below b5)
  have Q4 := Lib.hid q4
  have S9 := Lib.hid (s4b_below S9.out (by omega) b5)
  have S11 := Lib.hid (s4b_below S11.out (by omega) b5)
  have B5 := Lib.hid (B4.out.trans (b5.mono B4.out.size))
  have z5 : w3.heap.size < w5.heap.size := Nat.lt_of_lt_of_le z4 b5.size
  clear o4 b5 q4 z4 R1 R2
  go_wp2_with fail
  refine (C7.out w5).mono ?_
  rintro e w6 ⟨rfl, b6⟩
  have hb6 := (((Below.refl w5.heap.size w5).alloc (Nat.le_refl _) (.cells (ppA p7) 28)).trans (b6.mono (by simp))).alloc (by have := b6.size; simp at this; omega) (.cells #[.int .i64 7, .int .i64 0, .string ⟨#[]⟩, .string ⟨#[]⟩] 28)
  have S9 := Lib.hid (s4b_below S9.out (by omega) hb6)
  have S11 := Lib.hid (s4b_below S11.out (by omega) hb6)
  have Q3 := Lib.hid (Q3.out.below hb6)
  have Q4 := Lib.hid (Q4.out.below hb6)
  have B6 := Lib.hid (B5.out.trans (hb6.mono B5.out.size))
  clear b6 hb6
  go_upto_region 6 with fail
  have SC : (w6.alloc (.cells #[.int .i64 7, .int .i64 0, .string ⟨#[]⟩, .string ⟨#[]⟩] 28)).cell? ⟨w6.heap.size, 0, none⟩ = some (.int .i64 7) := World.cell?_alloc_at _ _ _ _ rfl
  obtain ⟨W6, hW6⟩ : ∃ W, w6.alloc (.cells #[.int .i64 7, .int .i64 0, .string ⟨#[]⟩, .string ⟨#[]⟩] 28) = W := ⟨_, rfl⟩
  rw [hW6] at S9 S11 Q3 Q4 B6 SC ⊢
  obtain ⟨x1, x2, x3, x4⟩ := S9.out
  obtain ⟨y1, y2, y3, y4⟩ := S11.out
  clear hW6
  go_wp2
  go_loopw [73] (fun i wr => ∃ k : Nat, i = .int .i64 k ∧ k ≤ m ∧ Hid (Below W6.heap.size W6 wr)) (fun i _ => m - (intOf i).toNat)
  case atStart => exact ⟨0, rfl, by omega, Lib.hid (Below.refl _ _)⟩
  case round =>
    obtain ⟨k, rfl, hk, hb⟩ := hrel
    by_cases hlt : k < m
    · obtain ⟨x, hx⟩ : ∃ x, U[k]? = some x := ⟨_, List.getElem?_eq_getElem (by rw [HM.out]; exact hlt)⟩
      obtain ⟨g1, p1, rfl, hg1, e1⟩ := (Q3.out.below hb.out) (by rw [HM.out]; omega)
      obtain ⟨g2, p2, rfl, hg2, e2⟩ := (Q4.out.below hb.out) (by rw [HM.out]; omega)
      have c1 := e1 k x hx
      have c2 := e2 k x hx
      have f1 : (x.toList == x.toList) = true := by simp
      have f2 : (x.toList != x.toList) = false := by simp
      have hkm : (k : Int) < (m : Int) := by omega
      clear e1 e2 hx
      go_wp2
      go_quiet (fail)
      go_wp2
      go_roundw
      case rel => exact ⟨k + 1, by go_num, by omega, Lib.hid ⟨hb.out.os, hb.out.tape, hb.out.output, hb.out.size, hb.out.block⟩⟩
      case measure => simp [intOf]; omega
    · go_wp2
      go_ret
      exact ⟨rfl, B6.out.trans (hb.out.mono B6.out.size)⟩
theorem propFinds_walk (v : Value) (L : List Pp) (id : Int) (_hid : (Lit.int .i64 id).wf = true) (N : ByteArray) (_hN : N.size ≤ 140737488351232) (w : World) (h : SProp w v L) :
    Calls Try.prog 3 #[v, .int .i64 id, .string N] w fun e w' => e = .returned (.bool true) ∧ Below w.heap.size w w' := by
  rcases h with ⟨rfl, rfl⟩ | ⟨a, cap, rfl, h1, h2, h3⟩
  · exact finds_core none 0 0 [] id N w rfl (Nat.le_refl _) (by decide) (fun hp => absurd hp (by simp)) (.inl ⟨rfl, rfl⟩)
  · exact finds_core (some a) L.length cap L id N w rfl h1 h2 h3 (.inr ⟨a, rfl⟩)
end Go.Proofs.Ytohgepaldjailaa
