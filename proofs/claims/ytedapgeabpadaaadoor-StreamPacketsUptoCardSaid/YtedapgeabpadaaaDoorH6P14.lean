/- Parts of the proof, joined: Wr6, Wr7, Wr8. -/
import Derived.Test.YtedapgeabpadaaaDoorH6P13
import Derived.Deep.RegionHeld3
/- The walk of a writer's subs. -/
set_option linter.unusedVariables false
namespace Go.Proofs.YtedapgeabpadaaaDoor
open Go.Shelf Go.RowKit Pl

abbrev S5b (X : World) (B : Nat) (x : Sb) : Prop := X.cell? ⟨B, 0, none⟩ = some (.string x.f) ∧ X.cell? ⟨B, 1, none⟩ = some (.int .i64 x.q) ∧ X.cell? ⟨B, 2, none⟩ = some (.bool x.nl) ∧ X.cell? ⟨B, 3, none⟩ = some (.bool x.ap) ∧ X.cell? ⟨B, 4, none⟩ = some (.int .i64 x.h)
theorem S5b.of {X : World} {B : Nat} {x : Sb} {T : TypeId} (h : Blk X B (sbA x) T) : S5b X B x := ⟨h.cell 0, h.cell 1, h.cell 2, h.cell 3, h.cell 4⟩
theorem Wst.drew {W0 : World} {b : Nat} {o : Ot} {w : World} (h : Wst W0 b o w) : Wst W0 b o w.drew :=
  ⟨⟨h.below.os, h.below.tape, h.below.output, h.below.size, h.below.block⟩, h.wr⟩
theorem ModT.drew {T : TypeId → Prop} {a b : World} (h : ModT T a b) : ModT T a b.drew := ⟨h.os, h.tape, h.output, h.size, h.block⟩
/-- A writer behind the first k of a list. -/
def wFold {α : Type} (f : Ot → α → Ot) (o : Ot) (l : List α) (k : Nat) : Ot := (l.take k).foldl f o
theorem wFold_succ {α : Type} {f : Ot → α → Ot} {o : Ot} {l : List α} {k : Nat} {x : α} (h : l[k]? = some x) : wFold f o l (k + 1) = f (wFold f o l k) x := by
  unfold wFold
  rw [List.take_add_one, h, List.foldl_append]; rfl
theorem wFold_size {α : Type} {f : Ot → α → Ot} (c : Nat) (hf : ∀ o x, (f o x).s.size ≤ o.s.size + c) (o : Ot) (l : List α) : ∀ k, (wFold f o l k).s.size ≤ o.s.size + k * c
  | 0 => by simp [wFold]
  | k + 1 => by
    have ih := wFold_size c hf o l k
    cases h : l[k]? with
    | none =>
      have : wFold f o l (k + 1) = wFold f o l k := by unfold wFold; rw [List.take_add_one, h]; simp
      rw [this, Nat.succ_mul]; omega
    | some x =>
      rw [wFold_succ h, Nat.succ_mul]
      have := hf (wFold f o l k) x
      omega
set_option maxRecDepth 100000 in
set_option maxHeartbeats 8000000 in
theorem wsubs_any (W0 : World) (b : Nat) (o : Ot) (A : Option Addr) (n cap : Nat) (L : List Sb) (w : World) (hn : L.length = n) (hc : n ≤ cap) (hm : n ≤ 1048576) (hL : SbRow W0 A L) (hz : ∀ x ∈ L, x.f.size ≤ 1048576 ∧ i64B x.q ∧ i64B x.h) (hA : (A = none ∧ cap = 0) ∨ ∃ a, A = some a) (hs : o.s.size ≤ 16777216) (h : Wst W0 b o w) (hT : Tabs W0) :
    Calls Tryd.prog 76 #[.pointer (some ⟨b, 0, none⟩), .slice A n cap] w fun e w' => WPost W0 b (wSubs o L) w w' e := by
  have CS := Lib.hid (wsome_any W0 b o n w h)
  have HL := Lib.hid hL
  have HN := Lib.hid hn
  have HZ := Lib.hid hz
  have hs1 : (wSome o n).s.size ≤ 16777216 := by rw [some_size]; exact hs
  have HF : Hid (wSubs o L = wFold wSub (wSome o n) L (min n 64)) := Lib.hid (by
    unfold wSubs wFold
    rw [hn]
    congr 1
    rw [List.take_eq_take_iff]
    omega)
  obtain ⟨o1, ho1⟩ : ∃ x, wSome o n = x := ⟨_, rfl⟩
  rw [ho1] at CS HF hs1
  clear hn hz hL h hs ho1
  rcases hA with ⟨rfl, rfl⟩ | ⟨a, rfl⟩
  · obtain rfl : n = 0 := by omega
    have CS : Hid (Calls Tryd.prog 77 #[.pointer (some ⟨b, 0, none⟩), .int .i64 0] w fun e w' => WPost W0 b o1 w w' e) := CS
    have hmn : min (0 : Int) 64 = 0 := by decide
    go_enter Tryd.func76, Tryd.ntmps76
    go_wp2_with fail
    (with_reducible refine CS.out.mono ?_)
    rintro e w1 ⟨rfl, h1, m1⟩
    have H1 := Lib.hid h1
    have M1 := Lib.hid m1
    clear h1 m1
    go_wp2
    go_loopw [16] (fun i wr => ∃ k : Nat, i = .int .i64 k ∧ k ≤ 0 ∧ Hid (Wst W0 b (wFold wSub o1 L k) wr) ∧ Hid (ModT wT w wr)) (fun i _ => 0 - (intOf i).toNat)
    case atStart => exact ⟨0, rfl, by omega, H1, M1⟩
    case round =>
      obtain ⟨k, rfl, hk, hw, hmt⟩ := hrel
      by_cases hlt : k < 0
      · omega
      · have hkK : k = 0 := by omega
        have HE : Hid (wSubs o L = wFold wSub o1 L k) := Lib.hid (by rw [HF.out]; congr 1; omega)
        subst hkK
        go_wp2
        go_end0
        rw [HE.out]
        exact ⟨rfl, hw.out, hmt.out⟩
  · by_cases hle : n ≤ 64
    · have hmn : min (n : Int) 64 = (n : Int) := by omega
      have hcI : (n : Int) ≤ (cap : Int) := by omega
      go_enter Tryd.func76, Tryd.ntmps76
      go_wp2_with fail
      (with_reducible refine CS.out.mono ?_)
      rintro e w1 ⟨rfl, h1, m1⟩
      have H1 := Lib.hid h1
      have M1 := Lib.hid m1
      clear h1 m1
      go_wp2
      go_loopw [16] (fun i wr => ∃ k : Nat, i = .int .i64 k ∧ k ≤ n ∧ Hid (Wst W0 b (wFold wSub o1 L k) wr) ∧ Hid (ModT wT w wr)) (fun i _ => n - (intOf i).toNat)
      case atStart => exact ⟨0, rfl, by omega, H1, M1⟩
      case round =>
        obtain ⟨k, rfl, hk, hw, hmt⟩ := hrel
        by_cases hlt : k < n
        · obtain ⟨g, q, e0, hg, hcl⟩ := (HL.out.below hw.out.below) (by rw [HN.out]; omega)
          injection e0 with e0
          subst e0
          obtain ⟨x, hx⟩ : ∃ x, L[k]? = some x := ⟨_, List.getElem?_eq_getElem (by rw [HN.out]; omega)⟩
          obtain ⟨c0, c1, c2, c3, c4⟩ := hcl k x hx
          have hfx := HZ.out x (List.mem_of_getElem? hx)
          have hkI : (k : Int) < (n : Int) := by omega
          have hkc : (k : Int) < (cap : Int) := by omega
          have HX := Lib.hid (wFold_succ (f := wSub) (o := o1) hx)
          have hsz := wFold_size 65538 sub_size o1 L k
          obtain ⟨ok, hok⟩ : ∃ y, wFold wSub o1 L k = y := ⟨_, rfl⟩
          rw [hok] at hw hsz HX
          have HQ := Lib.hid (Blk.new wr (sbA x) 84)
          have HB := Lib.hid (hw.out.alloc (.cells (sbA x) 84))
          have MB := Lib.hid (hmt.out.trans (ModT.of_below (T := wT) ((Below.refl wr.heap.size wr).alloc (Nat.le_refl _) (.cells (sbA x) 84))))
          obtain ⟨Y, hY⟩ : ∃ Y, wr.alloc (.cells (sbA x) 84) = Y := ⟨_, rfl⟩
          rw [hY] at HQ HB MB
          unfold sbA at hY
          have HY := Lib.hid hY
          have FQ := Lib.hid hfx.2.1
          have FH := Lib.hid hfx.2.2
          have y0 : Y.cell? ⟨wr.heap.size, 0, none⟩ = some (.string x.f) := HQ.out.cell 0
          have C1 := Lib.hid (wtext_any W0 b ok x.f Y (by have := hfx.1; omega) (by omega) HB.out hT)
          clear hcl hx hok hY hfx
          go_wp2_with fail
          rw [HY.out]
          (with_reducible refine C1.out.mono ?_)
          rintro e w2 ⟨rfl, h2, m2⟩
          have Q2 := Lib.hid (HQ.out.modT m2 (by unfold wT; decide))
          have M2 := Lib.hid (MB.out.trans m2)
          have y1 : w2.cell? ⟨wr.heap.size, 1, none⟩ = some (.int .i64 x.q) := Q2.out.cell 1
          have C2 := Lib.hid (wqos_any W0 b _ x.q w2 h2)
          clear h2 m2
          go_wp2_with fail
          (with_reducible refine C2.out.mono ?_)
          rintro e w3 ⟨rfl, h3, m3⟩
          have Q3 := Lib.hid (Q2.out.modT m3 (by unfold wT; decide))
          have M3 := Lib.hid (M2.out.trans m3)
          have y4 : w3.cell? ⟨wr.heap.size, 4, none⟩ = some (.int .i64 x.h) := Q3.out.cell 4
          have C3 := Lib.hid (wqos_any W0 b _ x.h w3 h3)
          clear h3 m3
          go_wp2_with fail
          (with_reducible refine C3.out.mono ?_)
          rintro e w4 ⟨rfl, h4, m4⟩
          have Q4 := Lib.hid (Q3.out.modT m4 (by unfold wT; decide))
          have M4 := Lib.hid (M3.out.trans m4)
          have H4 := Lib.hid h4
          have zt := text_size ok x.f
          have C4 := Lib.hid (wbyte_any W0 b _ (sByte x) w4.drew (by rw [qos_size, qos_size]; omega) h4.drew)
          have s0 : S5b w4 wr.heap.size x := S5b.of Q4.out
          have s1 : S5b w4.drew wr.heap.size x := s0
          have a1 := Int.emod_nonneg x.q (show (4 : Int) ≠ 0 by decide)
          have a2 := Int.emod_lt_of_pos x.q (show (0 : Int) < 4 by decide)
          have a3 := Int.emod_nonneg x.h (show (4 : Int) ≠ 0 by decide)
          have a4 := Int.emod_lt_of_pos x.h (show (0 : Int) < 4 by decide)
          have a5 := bt1_bd x.nl 4 (by decide)
          have a6 := bt1_bd x.ap 8 (by decide)
          have n1 := and_3 FQ.out.1 FQ.out.2
          have n2 := and_3 FH.out.1 FH.out.2
          have r1 : IntKind.i64.wrap (x.q % 4 + bt1 x.nl 4) = x.q % 4 + bt1 x.nl 4 := IntWalk.i64_in _ (by omega)
          have r2 : IntKind.i64.wrap (x.q % 4 + bt1 x.nl 4 + bt1 x.ap 8) = x.q % 4 + bt1 x.nl 4 + bt1 x.ap 8 := IntWalk.i64_in _ (by omega)
          have r0 : IntKind.i64.wrap (x.h % 4 * 16) = x.h % 4 * 16 := IntWalk.i64_in _ (by omega)
          have r3 : IntKind.i64.wrap (x.q % 4 + bt1 x.nl 4 + bt1 x.ap 8 + x.h % 4 * 16) = x.q % 4 + bt1 x.nl 4 + bt1 x.ap 8 + x.h % 4 * 16 := IntWalk.i64_in _ (by omega)
          have eF : sByte x = x.q % 4 + bt1 x.nl 4 + bt1 x.ap 8 + x.h % 4 * 16 := by unfold sByte; omega
          rw [eF] at C4
          have EF := Lib.hid eF
          clear h4 m4 y0 y1 y4 c0 c1 c2 c3 c4 a1 a2 a3 a4 a5 a6 eF
          go_wp2_with fail
          go_region_held3 (fun X => S5b X wr.heap.size x) (first | (with_reducible assumption) | exact s0 | exact s1 | exact y6) (first | (go_at_call 25; refine (bit_any _ _ _).mono ?_; rintro e w5 ⟨rfl, rfl⟩) | (go_at_call 41; (with_reducible refine C4.out.mono ?_); rintro e w6 ⟨rfl, h6, m6⟩; have y6 : S5b w6 wr.heap.size x := S5b.of ((Q4.out.drew).modT m6 (by unfold wT; decide))) | (fail))
          all_goals
            have H6 := Lib.hid h6
            have M6 := Lib.hid (M4.out.drew.trans m6)
            clear h6 m6 y6
          all_goals go_wp2
          all_goals
            go_roundw
            case rel => exact ⟨k + 1, by go_num, by omega, by rw [HX.out]; unfold wSub; rw [EF.out]; exact H6, M6⟩
            case measure => simp [intOf]; omega
        · have hkK : k = n := by omega
          have HE : Hid (wSubs o L = wFold wSub o1 L k) := Lib.hid (by rw [HF.out]; congr 1; omega)
          subst hkK
          go_wp2
          go_end0
          rw [HE.out]
          exact ⟨rfl, hw.out, hmt.out⟩
    · have hmn : min (n : Int) 64 = 64 := by omega
      have hcI : (64 : Int) ≤ (cap : Int) := by omega
      have hmx : max (64 : Int) 0 = 64 := by decide
      go_enter Tryd.func76, Tryd.ntmps76
      go_wp2_with fail
      (with_reducible refine CS.out.mono ?_)
      rintro e w1 ⟨rfl, h1, m1⟩
      have H1 := Lib.hid h1
      have M1 := Lib.hid m1
      clear h1 m1
      go_wp2
      go_loopw [16] (fun i wr => ∃ k : Nat, i = .int .i64 k ∧ k ≤ 64 ∧ Hid (Wst W0 b (wFold wSub o1 L k) wr) ∧ Hid (ModT wT w wr)) (fun i _ => 64 - (intOf i).toNat)
      case atStart => exact ⟨0, rfl, by omega, H1, M1⟩
      case round =>
        obtain ⟨k, rfl, hk, hw, hmt⟩ := hrel
        by_cases hlt : k < 64
        · obtain ⟨g, q, e0, hg, hcl⟩ := (HL.out.below hw.out.below) (by rw [HN.out]; omega)
          injection e0 with e0
          subst e0
          obtain ⟨x, hx⟩ : ∃ x, L[k]? = some x := ⟨_, List.getElem?_eq_getElem (by rw [HN.out]; omega)⟩
          obtain ⟨c0, c1, c2, c3, c4⟩ := hcl k x hx
          have hfx := HZ.out x (List.mem_of_getElem? hx)
          have hkI : (k : Int) < 64 := by omega
          have hkc : (k : Int) < (cap : Int) := by omega
          have HX := Lib.hid (wFold_succ (f := wSub) (o := o1) hx)
          have hsz := wFold_size 65538 sub_size o1 L k
          obtain ⟨ok, hok⟩ : ∃ y, wFold wSub o1 L k = y := ⟨_, rfl⟩
          rw [hok] at hw hsz HX
          have HQ := Lib.hid (Blk.new wr (sbA x) 84)
          have HB := Lib.hid (hw.out.alloc (.cells (sbA x) 84))
          have MB := Lib.hid (hmt.out.trans (ModT.of_below (T := wT) ((Below.refl wr.heap.size wr).alloc (Nat.le_refl _) (.cells (sbA x) 84))))
          obtain ⟨Y, hY⟩ : ∃ Y, wr.alloc (.cells (sbA x) 84) = Y := ⟨_, rfl⟩
          rw [hY] at HQ HB MB
          unfold sbA at hY
          have HY := Lib.hid hY
          have FQ := Lib.hid hfx.2.1
          have FH := Lib.hid hfx.2.2
          have y0 : Y.cell? ⟨wr.heap.size, 0, none⟩ = some (.string x.f) := HQ.out.cell 0
          have C1 := Lib.hid (wtext_any W0 b ok x.f Y (by have := hfx.1; omega) (by omega) HB.out hT)
          clear hcl hx hok hY hfx
          go_wp2_with fail
          rw [HY.out]
          (with_reducible refine C1.out.mono ?_)
          rintro e w2 ⟨rfl, h2, m2⟩
          have Q2 := Lib.hid (HQ.out.modT m2 (by unfold wT; decide))
          have M2 := Lib.hid (MB.out.trans m2)
          have y1 : w2.cell? ⟨wr.heap.size, 1, none⟩ = some (.int .i64 x.q) := Q2.out.cell 1
          have C2 := Lib.hid (wqos_any W0 b _ x.q w2 h2)
          clear h2 m2
          go_wp2_with fail
          (with_reducible refine C2.out.mono ?_)
          rintro e w3 ⟨rfl, h3, m3⟩
          have Q3 := Lib.hid (Q2.out.modT m3 (by unfold wT; decide))
          have M3 := Lib.hid (M2.out.trans m3)
          have y4 : w3.cell? ⟨wr.heap.size, 4, none⟩ = some (.int .i64 x.h) := Q3.out.cell 4
          have C3 := Lib.hid (wqos_any W0 b _ x.h w3 h3)
          clear h3 m3
          go_wp2_with fail
          (with_reducible refine C3.out.mono ?_)
          rintro e w4 ⟨rfl, h4, m4⟩
          have Q4 := Lib.hid (Q3.out.modT m4 (by unfold wT; decide))
          have M4 := Lib.hid (M3.out.trans m4)
          have H4 := Lib.hid h4
          have zt := text_size ok x.f
          have C4 := Lib.hid (wbyte_any W0 b _ (sByte x) w4.drew (by rw [qos_size, qos_size]; omega) h4.drew)
          have s0 : S5b w4 wr.heap.size x := S5b.of Q4.out
          have s1 : S5b w4.drew wr.heap.size x := s0
          have a1 := Int.emod_nonneg x.q (show (4 : Int) ≠ 0 by decide)
          have a2 := Int.emod_lt_of_pos x.q (show (0 : Int) < 4 by decide)
          have a3 := Int.emod_nonneg x.h (show (4 : Int) ≠ 0 by decide)
          have a4 := Int.emod_lt_of_pos x.h (show (0 : Int) < 4 by decide)
          have a5 := bt1_bd x.nl 4 (by decide)
          have a6 := bt1_bd x.ap 8 (by decide)
          have n1 := and_3 FQ.out.1 FQ.out.2
          have n2 := and_3 FH.out.1 FH.out.2
          have r1 : IntKind.i64.wrap (x.q % 4 + bt1 x.nl 4) = x.q % 4 + bt1 x.nl 4 := IntWalk.i64_in _ (by omega)
          have r2 : IntKind.i64.wrap (x.q % 4 + bt1 x.nl 4 + bt1 x.ap 8) = x.q % 4 + bt1 x.nl 4 + bt1 x.ap 8 := IntWalk.i64_in _ (by omega)
          have r0 : IntKind.i64.wrap (x.h % 4 * 16) = x.h % 4 * 16 := IntWalk.i64_in _ (by omega)
          have r3 : IntKind.i64.wrap (x.q % 4 + bt1 x.nl 4 + bt1 x.ap 8 + x.h % 4 * 16) = x.q % 4 + bt1 x.nl 4 + bt1 x.ap 8 + x.h % 4 * 16 := IntWalk.i64_in _ (by omega)
          have eF : sByte x = x.q % 4 + bt1 x.nl 4 + bt1 x.ap 8 + x.h % 4 * 16 := by unfold sByte; omega
          rw [eF] at C4
          have EF := Lib.hid eF
          clear h4 m4 y0 y1 y4 c0 c1 c2 c3 c4 a1 a2 a3 a4 a5 a6 eF
          go_wp2_with fail
          go_region_held3 (fun X => S5b X wr.heap.size x) (first | (with_reducible assumption) | exact s0 | exact s1 | exact y6) (first | (go_at_call 25; refine (bit_any _ _ _).mono ?_; rintro e w5 ⟨rfl, rfl⟩) | (go_at_call 41; (with_reducible refine C4.out.mono ?_); rintro e w6 ⟨rfl, h6, m6⟩; have y6 : S5b w6 wr.heap.size x := S5b.of ((Q4.out.drew).modT m6 (by unfold wT; decide))) | (fail))
          all_goals
            have H6 := Lib.hid h6
            have M6 := Lib.hid (M4.out.drew.trans m6)
            clear h6 m6 y6
          all_goals go_wp2
          all_goals
            go_roundw
            case rel => exact ⟨k + 1, by go_num, by omega, by rw [HX.out]; unfold wSub; rw [EF.out]; exact H6, M6⟩
            case measure => simp [intOf]; omega
        · have hkK : k = 64 := by omega
          have HE : Hid (wSubs o L = wFold wSub o1 L k) := Lib.hid (by rw [HF.out]; congr 1; omega)
          subst hkK
          go_wp2
          go_end0
          rw [HE.out]
          exact ⟨rfl, hw.out, hmt.out⟩
end Go.Proofs.YtedapgeabpadaaaDoor

/- The walk of a writer's lists. -/
set_option linter.unusedVariables false
namespace Go.Proofs.YtedapgeabpadaaaDoor
open Go.Shelf Go.RowKit Pl

theorem num1_size (o : Ot) (n : Int) : (wNum 1 o n).s.size ≤ o.s.size + 1 := num_size 1 o n
set_option maxRecDepth 100000 in
set_option maxHeartbeats 8000000 in
theorem wlists_subs (W0 : World) (b : Nat) (o : Ot) (p : Pk) (m : Hs) (w : World) (hP : PkIn .u8 W0 p m) (hs : o.s.size ≤ 1048576) (h : Wst W0 b o w) (hT : Tabs W0) (hk : p.kind = 8) :
    Calls Tryd.prog 46 #[.pointer (some ⟨b, 0, none⟩), pkV .u8 p m] w fun e w' => WPost W0 b (wLists o p) w w' e := by
  have hB := Blk.new w (pkA .u8 p m) 45
  have hA := h.alloc (.cells (pkA .u8 p m) 45)
  have mA : ModT wT w (w.alloc (.cells (pkA .u8 p m) 45)) := ModT.of_below ((Below.refl _ _).alloc (Nat.le_refl _) _)
  obtain ⟨W, hW⟩ : ∃ W, w.alloc (.cells (pkA .u8 p m) 45) = W := ⟨_, rfl⟩
  rw [hW] at hB hA mA
  unfold pkA at hW
  have HW := Lib.hid hW
  have HB := Lib.hid hB
  have HA := Lib.hid hA
  have MA := Lib.hid mA
  have HP := Lib.hid hP
  have c4 : W.cell? ⟨w.heap.size, 4, none⟩ = some (.int .i64 p.id) := hB.cell 4
  have C1 := Lib.hid (wid_any W0 b o p.id W (by omega) hA)
  obtain ⟨o1, e1⟩ : ∃ x, wId o p.id = x := ⟨_, rfl⟩
  have s1 : o1.s.size ≤ 1048580 := by rw [← e1]; have := id_size o p.id; omega
  have E1 := Lib.hid e1
  rw [e1] at C1
  clear hW hB hA mA hP h e1
  unfold pkV pkA
  have HK := Lib.hid hk
  have hk8 : (p.kind == 8) = true := by rw [hk]; rfl
  clear hk
  go_enter Tryd.func46, Tryd.ntmps46
  go_wp2_with fail
  rw [HW.out]
  (with_reducible refine C1.out.mono ?_)
  rintro e w1 ⟨rfl, h1, m1⟩
  have B1 := Lib.hid (HB.out.modT m1 (by unfold wT; decide))
  have M1 := Lib.hid (MA.out.trans m1)
  have d0 : w1.cell? ⟨w.heap.size, 0, none⟩ = some (.int .i64 p.kind) := B1.out.cell 0
  have d9 : w1.cell? ⟨w.heap.size, 9, none⟩ = some (.slice m.p.A m.p.n m.p.cap) := B1.out.cell 9
  have C2 := Lib.hid (wprops_any W0 b o1 p.kind m.p.A m.p.n m.p.cap p.ps w1 HP.out.pn HP.out.pc (by have := HP.out.fits.ps.1; have := HP.out.pn; omega) HP.out.pr HP.out.fits.ps.2 (by omega) h1 hT)
  obtain ⟨o2, e2⟩ : ∃ x, wProps p.kind o1 p.ps = x := ⟨_, rfl⟩
  have s2 : o2.s.size ≤ 9500000 := by rw [← e2]; have := props_size p.kind o1 p.ps; omega
  have E2 := Lib.hid e2
  rw [e2] at C2
  clear h1 m1 e2
  go_wp2_with fail
  (with_reducible refine C2.out.mono ?_)
  rintro e w2 ⟨rfl, h2, m2⟩
  have B2 := Lib.hid (B1.out.modT m2 (by unfold wT; decide))
  have M2 := Lib.hid (M1.out.trans m2)
  have H2 := Lib.hid h2
  have k0 : w2.cell? ⟨w.heap.size, 0, none⟩ = some (.int .i64 p.kind) := B2.out.cell 0
  clear h2 m2 d0 d9 c4
  have d20 : w2.cell? ⟨w.heap.size, 24, none⟩ = some (.slice m.s.A m.s.n m.s.cap) := B2.out.cell 24
  have C3 := Lib.hid (wsubs_any W0 b o2 m.s.A m.s.n m.s.cap p.subs w2 HP.out.sn HP.out.sc (by have := HP.out.fits.subs.1; have := HP.out.sn; omega) HP.out.sr HP.out.fits.subs.2 HP.out.sa (by omega) H2.out hT)
  go_wp2_with fail
  (with_reducible refine C3.out.mono ?_)
  rintro e w3 ⟨rfl, h3, m3⟩
  go_wp2
  go_end0
  have e : wLists o p = wSubs o2 p.subs := by unfold wLists; rw [if_pos HK.out, E1.out, E2.out]
  rw [e]
  exact ⟨rfl, h3, M2.out.trans m3⟩
set_option maxRecDepth 100000 in
set_option maxHeartbeats 8000000 in
theorem wlists_filters (W0 : World) (b : Nat) (o : Ot) (p : Pk) (m : Hs) (w : World) (hP : PkIn .u8 W0 p m) (hs : o.s.size ≤ 1048576) (h : Wst W0 b o w) (hT : Tabs W0) (hk : p.kind = 10) :
    Calls Tryd.prog 46 #[.pointer (some ⟨b, 0, none⟩), pkV .u8 p m] w fun e w' => WPost W0 b (wLists o p) w w' e := by
  have hB := Blk.new w (pkA .u8 p m) 45
  have hA := h.alloc (.cells (pkA .u8 p m) 45)
  have mA : ModT wT w (w.alloc (.cells (pkA .u8 p m) 45)) := ModT.of_below ((Below.refl _ _).alloc (Nat.le_refl _) _)
  obtain ⟨W, hW⟩ : ∃ W, w.alloc (.cells (pkA .u8 p m) 45) = W := ⟨_, rfl⟩
  rw [hW] at hB hA mA
  unfold pkA at hW
  have HW := Lib.hid hW
  have HB := Lib.hid hB
  have HA := Lib.hid hA
  have MA := Lib.hid mA
  have HP := Lib.hid hP
  have c4 : W.cell? ⟨w.heap.size, 4, none⟩ = some (.int .i64 p.id) := hB.cell 4
  have C1 := Lib.hid (wid_any W0 b o p.id W (by omega) hA)
  obtain ⟨o1, e1⟩ : ∃ x, wId o p.id = x := ⟨_, rfl⟩
  have s1 : o1.s.size ≤ 1048580 := by rw [← e1]; have := id_size o p.id; omega
  have E1 := Lib.hid e1
  rw [e1] at C1
  clear hW hB hA mA hP h e1
  unfold pkV pkA
  have HK := Lib.hid hk
  have hk8 : (p.kind == 8) = false := by rw [hk]; rfl
  have hk10 : (p.kind == 10) = true := by rw [hk]; rfl
  clear hk
  have hfc := HP.out.fc
  rcases HP.out.fa with ⟨ha, hcap⟩ | ⟨a, ha⟩
  · have HFA := Lib.hid ha
    have HFC := Lib.hid hcap
    have HF0 : Hid (m.f.n = 0) := Lib.hid (by omega)
    have hmn : min (0 : Int) 64 = 0 := by decide
    clear ha hcap hfc
    go_enter Tryd.func46, Tryd.ntmps46
    go_wp2_with fail
    rw [HW.out]
    (with_reducible refine C1.out.mono ?_)
    rintro e w1 ⟨rfl, h1, m1⟩
    have B1 := Lib.hid (HB.out.modT m1 (by unfold wT; decide))
    have M1 := Lib.hid (MA.out.trans m1)
    have d0 : w1.cell? ⟨w.heap.size, 0, none⟩ = some (.int .i64 p.kind) := B1.out.cell 0
    have d9 : w1.cell? ⟨w.heap.size, 9, none⟩ = some (.slice m.p.A m.p.n m.p.cap) := B1.out.cell 9
    have C2 := Lib.hid (wprops_any W0 b o1 p.kind m.p.A m.p.n m.p.cap p.ps w1 HP.out.pn HP.out.pc (by have := HP.out.fits.ps.1; have := HP.out.pn; omega) HP.out.pr HP.out.fits.ps.2 (by omega) h1 hT)
    obtain ⟨o2, e2⟩ : ∃ x, wProps p.kind o1 p.ps = x := ⟨_, rfl⟩
    have s2 : o2.s.size ≤ 9500000 := by rw [← e2]; have := props_size p.kind o1 p.ps; omega
    have E2 := Lib.hid e2
    rw [e2] at C2
    clear h1 m1 e2
    go_wp2_with fail
    (with_reducible refine C2.out.mono ?_)
    rintro e w2 ⟨rfl, h2, m2⟩
    have B2 := Lib.hid (B1.out.modT m2 (by unfold wT; decide))
    have M2 := Lib.hid (M1.out.trans m2)
    have H2 := Lib.hid h2
    have k0 : w2.cell? ⟨w.heap.size, 0, none⟩ = some (.int .i64 p.kind) := B2.out.cell 0
    clear h2 m2 d0 d9 c4
    have d25 : w2.cell? ⟨w.heap.size, 25, none⟩ = some (.slice none 0 0) := (B2.out.cell 25).trans (by show some (Value.slice m.f.A m.f.n m.f.cap) = _; rw [HFA.out, HF0.out, HFC.out])
    have C3 : Hid (Calls Tryd.prog 77 #[.pointer (some ⟨b, 0, none⟩), .int .i64 0] w2 fun e w' => WPost W0 b (wSome o2 p.filters.length) w2 w' e) := by rw [HP.out.fn]; rw [HF0.out]; exact wsome_any W0 b o2 ((0 : Nat) : Int) w2 H2.out
    obtain ⟨o3, e3⟩ : ∃ x, wSome o2 p.filters.length = x := ⟨_, rfl⟩
    have s3 : o3.s.size ≤ 9500000 := by rw [← e3, some_size]; exact s2
    rw [e3] at C3
    have HF : Hid (wLists o p = wFold wText o3 p.filters (min m.f.n 64)) := Lib.hid (by
      unfold wLists wFilters wFold
      rw [if_neg (by rw [HK.out]; decide), if_pos HK.out, E1.out, E2.out, e3]
      congr 1
      rw [List.take_eq_take_iff, HP.out.fn]
      omega)
    clear e3
    go_wp2_with fail
    (with_reducible refine C3.out.mono ?_)
    rintro e w3 ⟨rfl, h3, m3⟩
    have B3 := Lib.hid (B2.out.modT m3 (by unfold wT; decide))
    have M3 := Lib.hid (M2.out.trans m3)
    have H3 := Lib.hid h3
    have f25 : w3.cell? ⟨w.heap.size, 25, none⟩ = some (.slice none 0 0) := (B3.out.cell 25).trans (by show some (Value.slice m.f.A m.f.n m.f.cap) = _; rw [HFA.out, HF0.out, HFC.out])
    clear h3 m3 d25
    go_wp2
    go_loopw [58] (fun i wr => ∃ k : Nat, i = .int .i64 k ∧ k ≤ 0 ∧ Hid (Wst W0 b (wFold wText o3 p.filters k) wr) ∧ Hid (ModT wT w wr)) (fun i _ => 0 - (intOf i).toNat)
    case atStart => exact ⟨0, rfl, by omega, H3, M3⟩
    case round =>
      obtain ⟨k, rfl, hk, hw, hmt⟩ := hrel
      by_cases hlt : k < 0
      · omega
      · have hkK : k = 0 := by omega
        have HE : Hid (wLists o p = wFold wText o3 p.filters k) := Lib.hid (by rw [HF.out]; congr 1; have := HF0.out; omega)
        subst hkK
        go_wp2
        go_end0
        rw [HE.out]
        exact ⟨rfl, hw.out, hmt.out⟩
  · have HFA := Lib.hid ha
    have hcI0 : (m.f.n : Int) ≤ (m.f.cap : Int) := by omega
    clear ha
    by_cases hle : m.f.n ≤ 64
    · have hmn : min (m.f.n : Int) 64 = (m.f.n : Int) := by omega
      go_enter Tryd.func46, Tryd.ntmps46
      go_wp2_with fail
      rw [HW.out]
      (with_reducible refine C1.out.mono ?_)
      rintro e w1 ⟨rfl, h1, m1⟩
      have B1 := Lib.hid (HB.out.modT m1 (by unfold wT; decide))
      have M1 := Lib.hid (MA.out.trans m1)
      have d0 : w1.cell? ⟨w.heap.size, 0, none⟩ = some (.int .i64 p.kind) := B1.out.cell 0
      have d9 : w1.cell? ⟨w.heap.size, 9, none⟩ = some (.slice m.p.A m.p.n m.p.cap) := B1.out.cell 9
      have C2 := Lib.hid (wprops_any W0 b o1 p.kind m.p.A m.p.n m.p.cap p.ps w1 HP.out.pn HP.out.pc (by have := HP.out.fits.ps.1; have := HP.out.pn; omega) HP.out.pr HP.out.fits.ps.2 (by omega) h1 hT)
      obtain ⟨o2, e2⟩ : ∃ x, wProps p.kind o1 p.ps = x := ⟨_, rfl⟩
      have s2 : o2.s.size ≤ 9500000 := by rw [← e2]; have := props_size p.kind o1 p.ps; omega
      have E2 := Lib.hid e2
      rw [e2] at C2
      clear h1 m1 e2
      go_wp2_with fail
      (with_reducible refine C2.out.mono ?_)
      rintro e w2 ⟨rfl, h2, m2⟩
      have B2 := Lib.hid (B1.out.modT m2 (by unfold wT; decide))
      have M2 := Lib.hid (M1.out.trans m2)
      have H2 := Lib.hid h2
      have k0 : w2.cell? ⟨w.heap.size, 0, none⟩ = some (.int .i64 p.kind) := B2.out.cell 0
      clear h2 m2 d0 d9 c4
      have d25 : w2.cell? ⟨w.heap.size, 25, none⟩ = some (.slice (some a) m.f.n m.f.cap) := (B2.out.cell 25).trans (by show some (Value.slice m.f.A m.f.n m.f.cap) = _; rw [HFA.out])
      have C3 : Hid (Calls Tryd.prog 77 #[.pointer (some ⟨b, 0, none⟩), .int .i64 (m.f.n : Int)] w2 fun e w' => WPost W0 b (wSome o2 p.filters.length) w2 w' e) := by rw [HP.out.fn]; exact wsome_any W0 b o2 (m.f.n : Int) w2 H2.out
      obtain ⟨o3, e3⟩ : ∃ x, wSome o2 p.filters.length = x := ⟨_, rfl⟩
      have s3 : o3.s.size ≤ 9500000 := by rw [← e3, some_size]; exact s2
      rw [e3] at C3
      have HF : Hid (wLists o p = wFold wText o3 p.filters (min m.f.n 64)) := Lib.hid (by
        unfold wLists wFilters wFold
        rw [if_neg (by rw [HK.out]; decide), if_pos HK.out, E1.out, E2.out, e3]
        congr 1
        rw [List.take_eq_take_iff, HP.out.fn]
        omega)
      clear e3
      go_wp2_with fail
      (with_reducible refine C3.out.mono ?_)
      rintro e w3 ⟨rfl, h3, m3⟩
      have B3 := Lib.hid (B2.out.modT m3 (by unfold wT; decide))
      have M3 := Lib.hid (M2.out.trans m3)
      have H3 := Lib.hid h3
      have f25 : w3.cell? ⟨w.heap.size, 25, none⟩ = some (.slice (some a) m.f.n m.f.cap) := (B3.out.cell 25).trans (by show some (Value.slice m.f.A m.f.n m.f.cap) = _; rw [HFA.out])
      clear h3 m3 d25
      go_wp2
      go_loopw [58] (fun i wr => ∃ k : Nat, i = .int .i64 k ∧ k ≤ m.f.n ∧ Hid (Wst W0 b (wFold wText o3 p.filters k) wr) ∧ Hid (ModT wT w wr)) (fun i _ => m.f.n - (intOf i).toNat)
      case atStart => exact ⟨0, rfl, by omega, H3, M3⟩
      case round =>
        obtain ⟨k, rfl, hk, hw, hmt⟩ := hrel
        by_cases hlt : k < m.f.n
        · obtain ⟨g, q, e0, hg, hcl⟩ := (VRow.below HP.out.fr hw.out.below) (by rw [List.length_map, HP.out.fn]; omega)
          rw [HFA.out] at e0
          injection e0 with e0
          subst e0
          obtain ⟨x, hx⟩ : ∃ x, p.filters[k]? = some x := ⟨_, List.getElem?_eq_getElem (by rw [HP.out.fn]; omega)⟩
          have c0 := hcl k (.string x) (by rw [List.getElem?_map, hx]; rfl)
          have hfx := HP.out.fits.filters.2 x (List.mem_of_getElem? hx)
          have hkI : (k : Int) < (m.f.n : Int) := by omega
          have hkc : (k : Int) < (m.f.cap : Int) := by have := HP.out.fc; omega
          have HX := Lib.hid (wFold_succ (f := wText) (o := o3) hx)
          have hsz := wFold_size 65537 text_size o3 p.filters k
          have hnn := HP.out.fits.filters.1
          have hn2 := HP.out.fn
          have hkb : k ≤ 1048576 := by omega
          obtain ⟨ok, hok⟩ : ∃ y, wFold wText o3 p.filters k = y := ⟨_, rfl⟩
          rw [hok] at hw hsz HX
          have C5 := Lib.hid (wtext_any W0 b ok x wr (by omega) (by omega) hw.out hT)
          clear hcl hx hok hnn hn2
          go_wp2_with fail
          (with_reducible refine C5.out.mono ?_)
          rintro e w5 ⟨rfl, h5, m5⟩
          have H5 := Lib.hid h5
          have M5 := Lib.hid (hmt.out.trans m5)
          clear h5 m5
          go_wp2
          go_roundw
          case rel => exact ⟨k + 1, by go_num, by omega, by rw [HX.out]; exact H5, M5⟩
          case measure => simp [intOf]; omega
        · have hkK : k = m.f.n := by omega
          have HE : Hid (wLists o p = wFold wText o3 p.filters k) := Lib.hid (by rw [HF.out]; congr 1; omega)
          go_wp2
          go_end0
          rw [HE.out]
          exact ⟨rfl, hw.out, hmt.out⟩
    · have hmn : min (m.f.n : Int) 64 = 64 := by omega
      have hcI : (64 : Int) ≤ (m.f.cap : Int) := by omega
      have hmx : max (64 : Int) 0 = 64 := by decide
      go_enter Tryd.func46, Tryd.ntmps46
      go_wp2_with fail
      rw [HW.out]
      (with_reducible refine C1.out.mono ?_)
      rintro e w1 ⟨rfl, h1, m1⟩
      have B1 := Lib.hid (HB.out.modT m1 (by unfold wT; decide))
      have M1 := Lib.hid (MA.out.trans m1)
      have d0 : w1.cell? ⟨w.heap.size, 0, none⟩ = some (.int .i64 p.kind) := B1.out.cell 0
      have d9 : w1.cell? ⟨w.heap.size, 9, none⟩ = some (.slice m.p.A m.p.n m.p.cap) := B1.out.cell 9
      have C2 := Lib.hid (wprops_any W0 b o1 p.kind m.p.A m.p.n m.p.cap p.ps w1 HP.out.pn HP.out.pc (by have := HP.out.fits.ps.1; have := HP.out.pn; omega) HP.out.pr HP.out.fits.ps.2 (by omega) h1 hT)
      obtain ⟨o2, e2⟩ : ∃ x, wProps p.kind o1 p.ps = x := ⟨_, rfl⟩
      have s2 : o2.s.size ≤ 9500000 := by rw [← e2]; have := props_size p.kind o1 p.ps; omega
      have E2 := Lib.hid e2
      rw [e2] at C2
      clear h1 m1 e2
      go_wp2_with fail
      (with_reducible refine C2.out.mono ?_)
      rintro e w2 ⟨rfl, h2, m2⟩
      have B2 := Lib.hid (B1.out.modT m2 (by unfold wT; decide))
      have M2 := Lib.hid (M1.out.trans m2)
      have H2 := Lib.hid h2
      have k0 : w2.cell? ⟨w.heap.size, 0, none⟩ = some (.int .i64 p.kind) := B2.out.cell 0
      clear h2 m2 d0 d9 c4
      have d25 : w2.cell? ⟨w.heap.size, 25, none⟩ = some (.slice (some a) m.f.n m.f.cap) := (B2.out.cell 25).trans (by show some (Value.slice m.f.A m.f.n m.f.cap) = _; rw [HFA.out])
      have C3 : Hid (Calls Tryd.prog 77 #[.pointer (some ⟨b, 0, none⟩), .int .i64 (m.f.n : Int)] w2 fun e w' => WPost W0 b (wSome o2 p.filters.length) w2 w' e) := by rw [HP.out.fn]; exact wsome_any W0 b o2 (m.f.n : Int) w2 H2.out
      obtain ⟨o3, e3⟩ : ∃ x, wSome o2 p.filters.length = x := ⟨_, rfl⟩
      have s3 : o3.s.size ≤ 9500000 := by rw [← e3, some_size]; exact s2
      rw [e3] at C3
      have HF : Hid (wLists o p = wFold wText o3 p.filters (min m.f.n 64)) := Lib.hid (by
        unfold wLists wFilters wFold
        rw [if_neg (by rw [HK.out]; decide), if_pos HK.out, E1.out, E2.out, e3]
        congr 1
        rw [List.take_eq_take_iff, HP.out.fn]
        omega)
      clear e3
      go_wp2_with fail
      (with_reducible refine C3.out.mono ?_)
      rintro e w3 ⟨rfl, h3, m3⟩
      have B3 := Lib.hid (B2.out.modT m3 (by unfold wT; decide))
      have M3 := Lib.hid (M2.out.trans m3)
      have H3 := Lib.hid h3
      have f25 : w3.cell? ⟨w.heap.size, 25, none⟩ = some (.slice (some a) m.f.n m.f.cap) := (B3.out.cell 25).trans (by show some (Value.slice m.f.A m.f.n m.f.cap) = _; rw [HFA.out])
      clear h3 m3 d25
      go_wp2
      go_loopw [58] (fun i wr => ∃ k : Nat, i = .int .i64 k ∧ k ≤ 64 ∧ Hid (Wst W0 b (wFold wText o3 p.filters k) wr) ∧ Hid (ModT wT w wr)) (fun i _ => 64 - (intOf i).toNat)
      case atStart => exact ⟨0, rfl, by omega, H3, M3⟩
      case round =>
        obtain ⟨k, rfl, hk, hw, hmt⟩ := hrel
        by_cases hlt : k < 64
        · obtain ⟨g, q, e0, hg, hcl⟩ := (VRow.below HP.out.fr hw.out.below) (by rw [List.length_map, HP.out.fn]; omega)
          rw [HFA.out] at e0
          injection e0 with e0
          subst e0
          obtain ⟨x, hx⟩ : ∃ x, p.filters[k]? = some x := ⟨_, List.getElem?_eq_getElem (by rw [HP.out.fn]; omega)⟩
          have c0 := hcl k (.string x) (by rw [List.getElem?_map, hx]; rfl)
          have hfx := HP.out.fits.filters.2 x (List.mem_of_getElem? hx)
          have hkI : (k : Int) < 64 := by omega
          have hkc : (k : Int) < (m.f.cap : Int) := by have := HP.out.fc; omega
          have HX := Lib.hid (wFold_succ (f := wText) (o := o3) hx)
          have hsz := wFold_size 65537 text_size o3 p.filters k
          have hnn := HP.out.fits.filters.1
          have hn2 := HP.out.fn
          have hkb : k ≤ 1048576 := by omega
          obtain ⟨ok, hok⟩ : ∃ y, wFold wText o3 p.filters k = y := ⟨_, rfl⟩
          rw [hok] at hw hsz HX
          have C5 := Lib.hid (wtext_any W0 b ok x wr (by omega) (by omega) hw.out hT)
          clear hcl hx hok hnn hn2
          go_wp2_with fail
          (with_reducible refine C5.out.mono ?_)
          rintro e w5 ⟨rfl, h5, m5⟩
          have H5 := Lib.hid h5
          have M5 := Lib.hid (hmt.out.trans m5)
          clear h5 m5
          go_wp2
          go_roundw
          case rel => exact ⟨k + 1, by go_num, by omega, by rw [HX.out]; exact H5, M5⟩
          case measure => simp [intOf]; omega
        · have hkK : k = 64 := by omega
          have HE : Hid (wLists o p = wFold wText o3 p.filters k) := Lib.hid (by rw [HF.out]; congr 1; omega)
          subst hkK
          go_wp2
          go_end0
          rw [HE.out]
          exact ⟨rfl, hw.out, hmt.out⟩
set_option maxRecDepth 100000 in
set_option maxHeartbeats 8000000 in
theorem wlists_codes (W0 : World) (b : Nat) (o : Ot) (p : Pk) (m : Hs) (w : World) (hP : PkIn .u8 W0 p m) (hs : o.s.size ≤ 1048576) (h : Wst W0 b o w) (hT : Tabs W0) (hk : p.kind ≠ 8 ∧ p.kind ≠ 10) :
    Calls Tryd.prog 46 #[.pointer (some ⟨b, 0, none⟩), pkV .u8 p m] w fun e w' => WPost W0 b (wLists o p) w w' e := by
  have hB := Blk.new w (pkA .u8 p m) 45
  have hA := h.alloc (.cells (pkA .u8 p m) 45)
  have mA : ModT wT w (w.alloc (.cells (pkA .u8 p m) 45)) := ModT.of_below ((Below.refl _ _).alloc (Nat.le_refl _) _)
  obtain ⟨W, hW⟩ : ∃ W, w.alloc (.cells (pkA .u8 p m) 45) = W := ⟨_, rfl⟩
  rw [hW] at hB hA mA
  unfold pkA at hW
  have HW := Lib.hid hW
  have HB := Lib.hid hB
  have HA := Lib.hid hA
  have MA := Lib.hid mA
  have HP := Lib.hid hP
  have c4 : W.cell? ⟨w.heap.size, 4, none⟩ = some (.int .i64 p.id) := hB.cell 4
  have C1 := Lib.hid (wid_any W0 b o p.id W (by omega) hA)
  obtain ⟨o1, e1⟩ : ∃ x, wId o p.id = x := ⟨_, rfl⟩
  have s1 : o1.s.size ≤ 1048580 := by rw [← e1]; have := id_size o p.id; omega
  have E1 := Lib.hid e1
  rw [e1] at C1
  clear hW hB hA mA hP h e1
  unfold pkV pkA
  have HK := Lib.hid hk
  have hk8 : (p.kind == 8) = false := beq_eq_false_iff_ne.2 hk.1
  have hk10 : (p.kind == 10) = false := beq_eq_false_iff_ne.2 hk.2
  clear hk
  go_enter Tryd.func46, Tryd.ntmps46
  go_wp2_with fail
  rw [HW.out]
  (with_reducible refine C1.out.mono ?_)
  rintro e w1 ⟨rfl, h1, m1⟩
  have B1 := Lib.hid (HB.out.modT m1 (by unfold wT; decide))
  have M1 := Lib.hid (MA.out.trans m1)
  have d0 : w1.cell? ⟨w.heap.size, 0, none⟩ = some (.int .i64 p.kind) := B1.out.cell 0
  have d9 : w1.cell? ⟨w.heap.size, 9, none⟩ = some (.slice m.p.A m.p.n m.p.cap) := B1.out.cell 9
  have C2 := Lib.hid (wprops_any W0 b o1 p.kind m.p.A m.p.n m.p.cap p.ps w1 HP.out.pn HP.out.pc (by have := HP.out.fits.ps.1; have := HP.out.pn; omega) HP.out.pr HP.out.fits.ps.2 (by omega) h1 hT)
  obtain ⟨o2, e2⟩ : ∃ x, wProps p.kind o1 p.ps = x := ⟨_, rfl⟩
  have s2 : o2.s.size ≤ 9500000 := by rw [← e2]; have := props_size p.kind o1 p.ps; omega
  have E2 := Lib.hid e2
  rw [e2] at C2
  clear h1 m1 e2
  go_wp2_with fail
  (with_reducible refine C2.out.mono ?_)
  rintro e w2 ⟨rfl, h2, m2⟩
  have B2 := Lib.hid (B1.out.modT m2 (by unfold wT; decide))
  have M2 := Lib.hid (M1.out.trans m2)
  have H2 := Lib.hid h2
  have k0 : w2.cell? ⟨w.heap.size, 0, none⟩ = some (.int .i64 p.kind) := B2.out.cell 0
  clear h2 m2 d0 d9 c4
  have d8 : w2.cell? ⟨w.heap.size, 8, none⟩ = some (.slice m.c.A m.c.n m.c.cap) := B2.out.cell 8
  have C3 : Hid (Calls Tryd.prog 77 #[.pointer (some ⟨b, 0, none⟩), .int .i64 (m.c.n : Int)] w2 fun e w' => WPost W0 b (wSome o2 p.codes.length) w2 w' e) := by rw [HP.out.cn]; exact wsome_any W0 b o2 (m.c.n : Int) w2 H2.out
  obtain ⟨o3, e3⟩ : ∃ x, wSome o2 p.codes.length = x := ⟨_, rfl⟩
  have s3 : o3.s.size ≤ 9500000 := by rw [← e3, some_size]; exact s2
  rw [e3] at C3
  have HF : Hid (wLists o p = wFold (wNum 1) o3 p.codes m.c.n) := Lib.hid (by
    unfold wLists wCodes wFold
    rw [if_neg HK.out.1, if_neg HK.out.2, E1.out, E2.out, e3, ← HP.out.cn, List.take_length])
  clear e3
  go_wp2_with fail
  (with_reducible refine C3.out.mono ?_)
  rintro e w3 ⟨rfl, h3, m3⟩
  have B3 := Lib.hid (B2.out.modT m3 (by unfold wT; decide))
  have M3 := Lib.hid (M2.out.trans m3)
  have H3 := Lib.hid h3
  have f8 : w3.cell? ⟨w.heap.size, 8, none⟩ = some (.slice m.c.A m.c.n m.c.cap) := B3.out.cell 8
  clear h3 m3 d8
  go_wp2
  go_loopw [28] (fun i wr => ∃ k : Nat, i = .int .i64 k ∧ k ≤ m.c.n ∧ Hid (Wst W0 b (wFold (wNum 1) o3 p.codes k) wr) ∧ Hid (ModT wT w wr)) (fun i _ => m.c.n - (intOf i).toNat)
  case atStart => exact ⟨0, rfl, by omega, H3, M3⟩
  case round =>
    obtain ⟨k, rfl, hk, hw, hmt⟩ := hrel
    by_cases hlt : k < m.c.n
    · obtain ⟨g, q, e0, hg, hcl⟩ := (VRow.below HP.out.cr hw.out.below) (by rw [List.length_map, HP.out.cn]; omega)
      rw [e0]
      obtain ⟨x, hx⟩ : ∃ x, p.codes[k]? = some x := ⟨_, List.getElem?_eq_getElem (by rw [HP.out.cn]; omega)⟩
      have c0 := hcl k (.int .u8 x) (by rw [List.getElem?_map, hx]; rfl)
      have hfx := HP.out.fits.codes.2 x (List.mem_of_getElem? hx)
      have hkI : (k : Int) < (m.c.n : Int) := by omega
      have hkc : (k : Int) < (m.c.cap : Int) := by have := HP.out.cc; omega
      have HX := Lib.hid (wFold_succ (f := (wNum 1)) (o := o3) hx)
      have hsz := wFold_size 1 num1_size o3 p.codes k
      have hnn := HP.out.fits.codes.1
      have hn2 := HP.out.cn
      have hkb : k ≤ 1048576 := by omega
      obtain ⟨ok, hok⟩ : ∃ y, wFold (wNum 1) o3 p.codes k = y := ⟨_, rfl⟩
      rw [hok] at hw hsz HX
      have C5 := Lib.hid (wbyte_any W0 b ok x wr (by omega) hw.out)
      clear hcl hx hok hnn hn2
      go_wp2_with fail
      (with_reducible refine C5.out.mono ?_)
      rintro e w5 ⟨rfl, h5, m5⟩
      have H5 := Lib.hid h5
      have M5 := Lib.hid (hmt.out.trans m5)
      clear h5 m5
      go_wp2
      go_roundw
      case rel => exact ⟨k + 1, by go_num, by omega, by rw [HX.out]; exact H5, M5⟩
      case measure => simp [intOf]; omega
    · have hkK : k = m.c.n := by omega
      have HE : Hid (wLists o p = wFold (wNum 1) o3 p.codes k) := Lib.hid (by rw [HF.out]; congr 1; omega)
      go_wp2
      go_end0
      rw [HE.out]
      exact ⟨rfl, hw.out, hmt.out⟩
theorem wlists_any (W0 : World) (b : Nat) (o : Ot) (p : Pk) (m : Hs) (w : World) (hP : PkIn .u8 W0 p m) (hs : o.s.size ≤ 1048576) (h : Wst W0 b o w) (hT : Tabs W0) :
    Calls Tryd.prog 46 #[.pointer (some ⟨b, 0, none⟩), pkV .u8 p m] w fun e w' => WPost W0 b (wLists o p) w w' e := by
  by_cases h8 : p.kind = 8
  · exact wlists_subs W0 b o p m w hP hs h hT h8
  · by_cases h10 : p.kind = 10
    · exact wlists_filters W0 b o p m w hP hs h hT h10
    · exact wlists_codes W0 b o p m w hP hs h hT ⟨h8, h10⟩
end Go.Proofs.YtedapgeabpadaaaDoor

/- The walk of a writer's body. -/
set_option linter.unusedVariables false
namespace Go.Proofs.YtedapgeabpadaaaDoor
open Go.Shelf Go.RowKit Pl

theorem pk_size : (Tryd.prog.info? 45).map (·.size) = some 26 := by kernel_rfl

set_option maxRecDepth 100000 in
set_option maxHeartbeats 8000000 in
theorem wbody_1 (W0 : World) (b : Nat) (o : Ot) (p : Pk) (m : Hs) (w : World) (hP : PkIn .u8 W0 p m) (hs : o.s.size ≤ 1048000) (h : Wst W0 b o w) (hT : Tabs W0) (hk : p.kind = 1) :
    Calls Tryd.prog 26 #[.pointer (some ⟨b, 0, none⟩), pkV .u8 p m] w fun e w' => WPost W0 b (wBody o p) w w' e := by
  have hB := Blk.new w (pkA .u8 p m) 45
  have hA := h.alloc (.cells (pkA .u8 p m) 45)
  have mA : ModT wT w (w.alloc (.cells (pkA .u8 p m) 45)) := ModT.of_below ((Below.refl _ _).alloc (Nat.le_refl _) _)
  obtain ⟨W, hW⟩ : ∃ W, w.alloc (.cells (pkA .u8 p m) 45) = W := ⟨_, rfl⟩
  rw [hW] at hB hA mA
  have HB := Lib.hid hB
  have HA := Lib.hid hA
  have MA := Lib.hid mA
  have HP := Lib.hid hP
  have HK := Lib.hid hk
  have t1 : (p.kind == 1) = true := by rw [HK.out]; rfl
  have C1 := wconnect_any W0 b o p m W hP (by omega) hA hT
  unfold pkV at C1
  have C1 := Lib.hid C1
  have k0 : W.cell? ⟨w.heap.size, 0, none⟩ = some (.int .i64 p.kind) := HB.out.cell 0
  clear hB hA mA hP h hk
  unfold pkV
  go_enter Tryd.func26, Tryd.ntmps26
  go_wp2_with (refine wpList_load_row rfl 45 (.tmp 3) rfl w.heap.size rfl 45 (pkA .u8 p m) (0, 0) _ HB.out Tryd.underlying45 rfl pk_size ?_)
  (with_reducible refine C1.out.mono ?_)
  rintro e w1 ⟨rfl, h1, m1⟩
  go_wp2
  go_end0
  have e : wBody o p = wConnect o p := by unfold wBody; rw [if_pos (by have := HK.out; omega)]
  rw [e]
  exact ⟨rfl, h1, MA.out.trans m1⟩
set_option maxRecDepth 100000 in
set_option maxHeartbeats 8000000 in
theorem wbody_2 (W0 : World) (b : Nat) (o : Ot) (p : Pk) (m : Hs) (w : World) (hP : PkIn .u8 W0 p m) (hs : o.s.size ≤ 1048000) (h : Wst W0 b o w) (hT : Tabs W0) (hk : p.kind = 2) :
    Calls Tryd.prog 26 #[.pointer (some ⟨b, 0, none⟩), pkV .u8 p m] w fun e w' => WPost W0 b (wBody o p) w w' e := by
  have hB := Blk.new w (pkA .u8 p m) 45
  have hA := h.alloc (.cells (pkA .u8 p m) 45)
  have mA : ModT wT w (w.alloc (.cells (pkA .u8 p m) 45)) := ModT.of_below ((Below.refl _ _).alloc (Nat.le_refl _) _)
  obtain ⟨W, hW⟩ : ∃ W, w.alloc (.cells (pkA .u8 p m) 45) = W := ⟨_, rfl⟩
  rw [hW] at hB hA mA
  have HB := Lib.hid hB
  have HA := Lib.hid hA
  have MA := Lib.hid mA
  have HP := Lib.hid hP
  have HK := Lib.hid hk
  have t1 : (p.kind == 1) = false := by rw [HK.out]; rfl
  have t2 : (p.kind == 2) = true := by rw [HK.out]; rfl
  have k0 : W.cell? ⟨w.heap.size, 0, none⟩ = some (.int .i64 p.kind) := HB.out.cell 0
  have k23 : W.cell? ⟨w.heap.size, 23, none⟩ = some (.bool p.session) := HB.out.cell 23
  have HS := Lib.hid hs
  have hcd := hP.fits.code
  clear hB hA mA hP h hk
  unfold pkV
  go_enter Tryd.func26, Tryd.ntmps26
  go_wp2_with fail
  (with_reducible refine (bit_any _ _ _).mono ?_)
  rintro e w1 ⟨rfl, rfl⟩
  have C1 := Lib.hid (wbyte_any W0 b o (bt1 p.session 1) W (by omega) HA.out)
  go_wp2_with fail
  (with_reducible refine C1.out.mono ?_)
  rintro e w1 ⟨rfl, h1, m1⟩
  have B1 := Lib.hid (HB.out.modT m1 (by unfold wT; decide))
  have M1 := Lib.hid (MA.out.trans m1)
  have z1 := num1_size o (bt1 p.session 1)
  have C2 := Lib.hid (wbyte_any W0 b _ p.code w1 (by omega) h1)
  have d7 : w1.cell? ⟨w.heap.size, 7, none⟩ = some (.int .u8 p.code) := B1.out.cell 7
  clear h1 m1 k0 k23
  go_wp2_with fail
  (with_reducible refine C2.out.mono ?_)
  rintro e w2 ⟨rfl, h2, m2⟩
  have B2 := Lib.hid (B1.out.modT m2 (by unfold wT; decide))
  have M2 := Lib.hid (M1.out.trans m2)
  have z2 := num1_size (wNum 1 o (bt1 p.session 1)) p.code
  have C3 := Lib.hid (wprops_any W0 b _ 2 m.p.A m.p.n m.p.cap p.ps w2 HP.out.pn HP.out.pc (by have := HP.out.fits.ps.1; have := HP.out.pn; omega) HP.out.pr HP.out.fits.ps.2 (by omega) h2 hT)
  have d9 : w2.cell? ⟨w.heap.size, 9, none⟩ = some (.slice m.p.A m.p.n m.p.cap) := B2.out.cell 9
  clear h2 m2 d7
  go_wp2_with fail
  (with_reducible refine C3.out.mono ?_)
  rintro e w3 ⟨rfl, h3, m3⟩
  go_wp2
  go_end0
  have e : wBody o p = wConnack o p := by unfold wBody; rw [if_neg (by have := HK.out; omega), if_pos (by have := HK.out; omega)]
  rw [e]
  exact ⟨rfl, h3, M2.out.trans m3⟩
set_option maxRecDepth 100000 in
set_option maxHeartbeats 8000000 in
theorem wbody_3 (W0 : World) (b : Nat) (o : Ot) (p : Pk) (m : Hs) (w : World) (hP : PkIn .u8 W0 p m) (hs : o.s.size ≤ 1048000) (h : Wst W0 b o w) (hT : Tabs W0) (hk : p.kind = 3) :
    Calls Tryd.prog 26 #[.pointer (some ⟨b, 0, none⟩), pkV .u8 p m] w fun e w' => WPost W0 b (wBody o p) w w' e := by
  have hB := Blk.new w (pkA .u8 p m) 45
  have hA := h.alloc (.cells (pkA .u8 p m) 45)
  have mA : ModT wT w (w.alloc (.cells (pkA .u8 p m) 45)) := ModT.of_below ((Below.refl _ _).alloc (Nat.le_refl _) _)
  obtain ⟨W, hW⟩ : ∃ W, w.alloc (.cells (pkA .u8 p m) 45) = W := ⟨_, rfl⟩
  rw [hW] at hB hA mA
  have HB := Lib.hid hB
  have HA := Lib.hid hA
  have MA := Lib.hid mA
  have HP := Lib.hid hP
  have HK := Lib.hid hk
  have t1 : (p.kind == 1) = false := by rw [HK.out]; rfl
  have t2 : (p.kind == 2) = false := by rw [HK.out]; rfl
  have t3 : (p.kind == 3) = true := by rw [HK.out]; rfl
  have C1 := wpublish_any W0 b o p m W hP (by omega) hA hT
  unfold pkV at C1
  have C1 := Lib.hid C1
  have k0 : W.cell? ⟨w.heap.size, 0, none⟩ = some (.int .i64 p.kind) := HB.out.cell 0
  clear hB hA mA hP h hk
  unfold pkV
  go_enter Tryd.func26, Tryd.ntmps26
  go_wp2_with (refine wpList_load_row rfl 45 (.tmp 3) rfl w.heap.size rfl 45 (pkA .u8 p m) (0, 0) _ HB.out Tryd.underlying45 rfl pk_size ?_)
  (with_reducible refine C1.out.mono ?_)
  rintro e w1 ⟨rfl, h1, m1⟩
  go_wp2
  go_end0
  have e : wBody o p = wPublish o p := by unfold wBody; rw [if_neg (by have := HK.out; omega), if_neg (by have := HK.out; omega), if_pos (by have := HK.out; omega)]
  rw [e]
  exact ⟨rfl, h1, MA.out.trans m1⟩
set_option maxRecDepth 100000 in
set_option maxHeartbeats 8000000 in
theorem wbody_4 (W0 : World) (b : Nat) (o : Ot) (p : Pk) (m : Hs) (w : World) (hP : PkIn .u8 W0 p m) (hs : o.s.size ≤ 1048000) (h : Wst W0 b o w) (hT : Tabs W0) (hk : p.kind = 4) :
    Calls Tryd.prog 26 #[.pointer (some ⟨b, 0, none⟩), pkV .u8 p m] w fun e w' => WPost W0 b (wBody o p) w w' e := by
  have hB := Blk.new w (pkA .u8 p m) 45
  have hA := h.alloc (.cells (pkA .u8 p m) 45)
  have mA : ModT wT w (w.alloc (.cells (pkA .u8 p m) 45)) := ModT.of_below ((Below.refl _ _).alloc (Nat.le_refl _) _)
  obtain ⟨W, hW⟩ : ∃ W, w.alloc (.cells (pkA .u8 p m) 45) = W := ⟨_, rfl⟩
  rw [hW] at hB hA mA
  have HB := Lib.hid hB
  have HA := Lib.hid hA
  have MA := Lib.hid mA
  have HP := Lib.hid hP
  have HK := Lib.hid hk
  have t1 : (p.kind == 1) = false := by rw [HK.out]; rfl
  have t2 : (p.kind == 2) = false := by rw [HK.out]; rfl
  have t3 : (p.kind == 3) = false := by rw [HK.out]; rfl
  have t4 : (p.kind == 4) = true := by rw [HK.out]; rfl
  have C1 := Lib.hid (wid_any W0 b o p.id W (by omega) hA)
  have k0 : W.cell? ⟨w.heap.size, 0, none⟩ = some (.int .i64 p.kind) := HB.out.cell 0
  have k4 : W.cell? ⟨w.heap.size, 4, none⟩ = some (.int .i64 p.id) := HB.out.cell 4
  clear hB hA mA hP h hk
  unfold pkV
  go_enter Tryd.func26, Tryd.ntmps26
  go_wp2_with fail
  (with_reducible refine C1.out.mono ?_)
  rintro e w1 ⟨rfl, h1, m1⟩
  have B1 := Lib.hid (HB.out.modT m1 (by unfold wT; decide))
  have M1 := Lib.hid (MA.out.trans m1)
  have C2 := wend_any W0 b (wId o p.id) p m w1 HP.out (by have := id_size o p.id; omega) h1 hT
  unfold pkV at C2
  have C2 := Lib.hid C2
  clear h1 m1 k0 k4
  have k0 : w1.cell? ⟨w.heap.size, 0, none⟩ = some (.int .i64 p.kind) := B1.out.cell 0
  go_wp2_with (refine wpList_load_row rfl 45 (.tmp 3) rfl w.heap.size rfl 45 (pkA .u8 p m) (0, 0) _ B1.out Tryd.underlying45 rfl pk_size ?_)
  (with_reducible refine C2.out.mono ?_)
  rintro e w2 ⟨rfl, h2, m2⟩
  go_wp2
  go_end0
  have e : wBody o p = wEnd (wId o p.id) p := by unfold wBody; rw [if_neg (by rw [HK.out]; decide), if_neg (by rw [HK.out]; decide), if_neg (by rw [HK.out]; decide), if_pos (by have := HK.out; omega)]
  rw [e]
  exact ⟨rfl, h2, M1.out.trans m2⟩
set_option maxRecDepth 100000 in
set_option maxHeartbeats 8000000 in
theorem wbody_5 (W0 : World) (b : Nat) (o : Ot) (p : Pk) (m : Hs) (w : World) (hP : PkIn .u8 W0 p m) (hs : o.s.size ≤ 1048000) (h : Wst W0 b o w) (hT : Tabs W0) (hk : p.kind = 5) :
    Calls Tryd.prog 26 #[.pointer (some ⟨b, 0, none⟩), pkV .u8 p m] w fun e w' => WPost W0 b (wBody o p) w w' e := by
  have hB := Blk.new w (pkA .u8 p m) 45
  have hA := h.alloc (.cells (pkA .u8 p m) 45)
  have mA : ModT wT w (w.alloc (.cells (pkA .u8 p m) 45)) := ModT.of_below ((Below.refl _ _).alloc (Nat.le_refl _) _)
  obtain ⟨W, hW⟩ : ∃ W, w.alloc (.cells (pkA .u8 p m) 45) = W := ⟨_, rfl⟩
  rw [hW] at hB hA mA
  have HB := Lib.hid hB
  have HA := Lib.hid hA
  have MA := Lib.hid mA
  have HP := Lib.hid hP
  have HK := Lib.hid hk
  have t1 : (p.kind == 1) = false := by rw [HK.out]; rfl
  have t2 : (p.kind == 2) = false := by rw [HK.out]; rfl
  have t3 : (p.kind == 3) = false := by rw [HK.out]; rfl
  have t4 : (p.kind == 4) = false := by rw [HK.out]; rfl
  have t5 : (p.kind == 5) = true := by rw [HK.out]; rfl
  have C1 := Lib.hid (wid_any W0 b o p.id W (by omega) hA)
  have k0 : W.cell? ⟨w.heap.size, 0, none⟩ = some (.int .i64 p.kind) := HB.out.cell 0
  have k4 : W.cell? ⟨w.heap.size, 4, none⟩ = some (.int .i64 p.id) := HB.out.cell 4
  clear hB hA mA hP h hk
  unfold pkV
  go_enter Tryd.func26, Tryd.ntmps26
  go_wp2_with fail
  (with_reducible refine C1.out.mono ?_)
  rintro e w1 ⟨rfl, h1, m1⟩
  have B1 := Lib.hid (HB.out.modT m1 (by unfold wT; decide))
  have M1 := Lib.hid (MA.out.trans m1)
  have C2 := wend_any W0 b (wId o p.id) p m w1 HP.out (by have := id_size o p.id; omega) h1 hT
  unfold pkV at C2
  have C2 := Lib.hid C2
  clear h1 m1 k0 k4
  have k0 : w1.cell? ⟨w.heap.size, 0, none⟩ = some (.int .i64 p.kind) := B1.out.cell 0
  go_wp2_with (refine wpList_load_row rfl 45 (.tmp 3) rfl w.heap.size rfl 45 (pkA .u8 p m) (0, 0) _ B1.out Tryd.underlying45 rfl pk_size ?_)
  (with_reducible refine C2.out.mono ?_)
  rintro e w2 ⟨rfl, h2, m2⟩
  go_wp2
  go_end0
  have e : wBody o p = wEnd (wId o p.id) p := by unfold wBody; rw [if_neg (by rw [HK.out]; decide), if_neg (by rw [HK.out]; decide), if_neg (by rw [HK.out]; decide), if_pos (by have := HK.out; omega)]
  rw [e]
  exact ⟨rfl, h2, M1.out.trans m2⟩
set_option maxRecDepth 100000 in
set_option maxHeartbeats 8000000 in
theorem wbody_6 (W0 : World) (b : Nat) (o : Ot) (p : Pk) (m : Hs) (w : World) (hP : PkIn .u8 W0 p m) (hs : o.s.size ≤ 1048000) (h : Wst W0 b o w) (hT : Tabs W0) (hk : p.kind = 6) :
    Calls Tryd.prog 26 #[.pointer (some ⟨b, 0, none⟩), pkV .u8 p m] w fun e w' => WPost W0 b (wBody o p) w w' e := by
  have hB := Blk.new w (pkA .u8 p m) 45
  have hA := h.alloc (.cells (pkA .u8 p m) 45)
  have mA : ModT wT w (w.alloc (.cells (pkA .u8 p m) 45)) := ModT.of_below ((Below.refl _ _).alloc (Nat.le_refl _) _)
  obtain ⟨W, hW⟩ : ∃ W, w.alloc (.cells (pkA .u8 p m) 45) = W := ⟨_, rfl⟩
  rw [hW] at hB hA mA
  have HB := Lib.hid hB
  have HA := Lib.hid hA
  have MA := Lib.hid mA
  have HP := Lib.hid hP
  have HK := Lib.hid hk
  have t1 : (p.kind == 1) = false := by rw [HK.out]; rfl
  have t2 : (p.kind == 2) = false := by rw [HK.out]; rfl
  have t3 : (p.kind == 3) = false := by rw [HK.out]; rfl
  have t4 : (p.kind == 4) = false := by rw [HK.out]; rfl
  have t5 : (p.kind == 5) = false := by rw [HK.out]; rfl
  have t6 : (p.kind == 6) = true := by rw [HK.out]; rfl
  have C1 := Lib.hid (wid_any W0 b o p.id W (by omega) hA)
  have k0 : W.cell? ⟨w.heap.size, 0, none⟩ = some (.int .i64 p.kind) := HB.out.cell 0
  have k4 : W.cell? ⟨w.heap.size, 4, none⟩ = some (.int .i64 p.id) := HB.out.cell 4
  clear hB hA mA hP h hk
  unfold pkV
  go_enter Tryd.func26, Tryd.ntmps26
  go_wp2_with fail
  (with_reducible refine C1.out.mono ?_)
  rintro e w1 ⟨rfl, h1, m1⟩
  have B1 := Lib.hid (HB.out.modT m1 (by unfold wT; decide))
  have M1 := Lib.hid (MA.out.trans m1)
  have C2 := wend_any W0 b (wId o p.id) p m w1 HP.out (by have := id_size o p.id; omega) h1 hT
  unfold pkV at C2
  have C2 := Lib.hid C2
  clear h1 m1 k0 k4
  have k0 : w1.cell? ⟨w.heap.size, 0, none⟩ = some (.int .i64 p.kind) := B1.out.cell 0
  go_wp2_with (refine wpList_load_row rfl 45 (.tmp 3) rfl w.heap.size rfl 45 (pkA .u8 p m) (0, 0) _ B1.out Tryd.underlying45 rfl pk_size ?_)
  (with_reducible refine C2.out.mono ?_)
  rintro e w2 ⟨rfl, h2, m2⟩
  go_wp2
  go_end0
  have e : wBody o p = wEnd (wId o p.id) p := by unfold wBody; rw [if_neg (by rw [HK.out]; decide), if_neg (by rw [HK.out]; decide), if_neg (by rw [HK.out]; decide), if_pos (by have := HK.out; omega)]
  rw [e]
  exact ⟨rfl, h2, M1.out.trans m2⟩
set_option maxRecDepth 100000 in
set_option maxHeartbeats 8000000 in
theorem wbody_7 (W0 : World) (b : Nat) (o : Ot) (p : Pk) (m : Hs) (w : World) (hP : PkIn .u8 W0 p m) (hs : o.s.size ≤ 1048000) (h : Wst W0 b o w) (hT : Tabs W0) (hk : p.kind = 7) :
    Calls Tryd.prog 26 #[.pointer (some ⟨b, 0, none⟩), pkV .u8 p m] w fun e w' => WPost W0 b (wBody o p) w w' e := by
  have hB := Blk.new w (pkA .u8 p m) 45
  have hA := h.alloc (.cells (pkA .u8 p m) 45)
  have mA : ModT wT w (w.alloc (.cells (pkA .u8 p m) 45)) := ModT.of_below ((Below.refl _ _).alloc (Nat.le_refl _) _)
  obtain ⟨W, hW⟩ : ∃ W, w.alloc (.cells (pkA .u8 p m) 45) = W := ⟨_, rfl⟩
  rw [hW] at hB hA mA
  have HB := Lib.hid hB
  have HA := Lib.hid hA
  have MA := Lib.hid mA
  have HP := Lib.hid hP
  have HK := Lib.hid hk
  have t1 : (p.kind == 1) = false := by rw [HK.out]; rfl
  have t2 : (p.kind == 2) = false := by rw [HK.out]; rfl
  have t3 : (p.kind == 3) = false := by rw [HK.out]; rfl
  have t4 : (p.kind == 4) = false := by rw [HK.out]; rfl
  have t5 : (p.kind == 5) = false := by rw [HK.out]; rfl
  have t6 : (p.kind == 6) = false := by rw [HK.out]; rfl
  have t7 : (p.kind == 7) = true := by rw [HK.out]; rfl
  have C1 := Lib.hid (wid_any W0 b o p.id W (by omega) hA)
  have k0 : W.cell? ⟨w.heap.size, 0, none⟩ = some (.int .i64 p.kind) := HB.out.cell 0
  have k4 : W.cell? ⟨w.heap.size, 4, none⟩ = some (.int .i64 p.id) := HB.out.cell 4
  clear hB hA mA hP h hk
  unfold pkV
  go_enter Tryd.func26, Tryd.ntmps26
  go_wp2_with fail
  (with_reducible refine C1.out.mono ?_)
  rintro e w1 ⟨rfl, h1, m1⟩
  have B1 := Lib.hid (HB.out.modT m1 (by unfold wT; decide))
  have M1 := Lib.hid (MA.out.trans m1)
  have C2 := wend_any W0 b (wId o p.id) p m w1 HP.out (by have := id_size o p.id; omega) h1 hT
  unfold pkV at C2
  have C2 := Lib.hid C2
  clear h1 m1 k0 k4
  have k0 : w1.cell? ⟨w.heap.size, 0, none⟩ = some (.int .i64 p.kind) := B1.out.cell 0
  go_wp2_with (refine wpList_load_row rfl 45 (.tmp 3) rfl w.heap.size rfl 45 (pkA .u8 p m) (0, 0) _ B1.out Tryd.underlying45 rfl pk_size ?_)
  (with_reducible refine C2.out.mono ?_)
  rintro e w2 ⟨rfl, h2, m2⟩
  go_wp2
  go_end0
  have e : wBody o p = wEnd (wId o p.id) p := by unfold wBody; rw [if_neg (by rw [HK.out]; decide), if_neg (by rw [HK.out]; decide), if_neg (by rw [HK.out]; decide), if_pos (by have := HK.out; omega)]
  rw [e]
  exact ⟨rfl, h2, M1.out.trans m2⟩
set_option maxRecDepth 100000 in
set_option maxHeartbeats 8000000 in
theorem wbody_14 (W0 : World) (b : Nat) (o : Ot) (p : Pk) (m : Hs) (w : World) (hP : PkIn .u8 W0 p m) (hs : o.s.size ≤ 1048000) (h : Wst W0 b o w) (hT : Tabs W0) (hk : p.kind = 14) :
    Calls Tryd.prog 26 #[.pointer (some ⟨b, 0, none⟩), pkV .u8 p m] w fun e w' => WPost W0 b (wBody o p) w w' e := by
  have hB := Blk.new w (pkA .u8 p m) 45
  have hA := h.alloc (.cells (pkA .u8 p m) 45)
  have mA : ModT wT w (w.alloc (.cells (pkA .u8 p m) 45)) := ModT.of_below ((Below.refl _ _).alloc (Nat.le_refl _) _)
  obtain ⟨W, hW⟩ : ∃ W, w.alloc (.cells (pkA .u8 p m) 45) = W := ⟨_, rfl⟩
  rw [hW] at hB hA mA
  have HB := Lib.hid hB
  have HA := Lib.hid hA
  have MA := Lib.hid mA
  have HP := Lib.hid hP
  have HK := Lib.hid hk
  have t1 : (p.kind == 1) = false := by rw [HK.out]; rfl
  have t2 : (p.kind == 2) = false := by rw [HK.out]; rfl
  have t3 : (p.kind == 3) = false := by rw [HK.out]; rfl
  have t4 : (p.kind == 4) = false := by rw [HK.out]; rfl
  have t5 : (p.kind == 5) = false := by rw [HK.out]; rfl
  have t6 : (p.kind == 6) = false := by rw [HK.out]; rfl
  have t7 : (p.kind == 7) = false := by rw [HK.out]; rfl
  have t14 : (p.kind == 14) = true := by rw [HK.out]; rfl
  have C1 := wend_any W0 b o p m W hP (by omega) hA hT
  unfold pkV at C1
  have C1 := Lib.hid C1
  have k0 : W.cell? ⟨w.heap.size, 0, none⟩ = some (.int .i64 p.kind) := HB.out.cell 0
  clear hB hA mA hP h hk
  unfold pkV
  go_enter Tryd.func26, Tryd.ntmps26
  go_wp2_with (refine wpList_load_row rfl 45 (.tmp 3) rfl w.heap.size rfl 45 (pkA .u8 p m) (0, 0) _ HB.out Tryd.underlying45 rfl pk_size ?_)
  (with_reducible refine C1.out.mono ?_)
  rintro e w1 ⟨rfl, h1, m1⟩
  go_wp2
  go_end0
  have e : wBody o p = wEnd o p := by unfold wBody; rw [if_neg (by have := HK.out; omega), if_neg (by have := HK.out; omega), if_neg (by have := HK.out; omega), if_neg (by have := HK.out; omega), if_pos (by have := HK.out; omega)]
  rw [e]
  exact ⟨rfl, h1, MA.out.trans m1⟩
set_option maxRecDepth 100000 in
set_option maxHeartbeats 8000000 in
theorem wbody_15 (W0 : World) (b : Nat) (o : Ot) (p : Pk) (m : Hs) (w : World) (hP : PkIn .u8 W0 p m) (hs : o.s.size ≤ 1048000) (h : Wst W0 b o w) (hT : Tabs W0) (hk : p.kind = 15) :
    Calls Tryd.prog 26 #[.pointer (some ⟨b, 0, none⟩), pkV .u8 p m] w fun e w' => WPost W0 b (wBody o p) w w' e := by
  have hB := Blk.new w (pkA .u8 p m) 45
  have hA := h.alloc (.cells (pkA .u8 p m) 45)
  have mA : ModT wT w (w.alloc (.cells (pkA .u8 p m) 45)) := ModT.of_below ((Below.refl _ _).alloc (Nat.le_refl _) _)
  obtain ⟨W, hW⟩ : ∃ W, w.alloc (.cells (pkA .u8 p m) 45) = W := ⟨_, rfl⟩
  rw [hW] at hB hA mA
  have HB := Lib.hid hB
  have HA := Lib.hid hA
  have MA := Lib.hid mA
  have HP := Lib.hid hP
  have HK := Lib.hid hk
  have t1 : (p.kind == 1) = false := by rw [HK.out]; rfl
  have t2 : (p.kind == 2) = false := by rw [HK.out]; rfl
  have t3 : (p.kind == 3) = false := by rw [HK.out]; rfl
  have t4 : (p.kind == 4) = false := by rw [HK.out]; rfl
  have t5 : (p.kind == 5) = false := by rw [HK.out]; rfl
  have t6 : (p.kind == 6) = false := by rw [HK.out]; rfl
  have t7 : (p.kind == 7) = false := by rw [HK.out]; rfl
  have t14 : (p.kind == 14) = false := by rw [HK.out]; rfl
  have t15 : (p.kind == 15) = true := by rw [HK.out]; rfl
  have C1 := wend_any W0 b o p m W hP (by omega) hA hT
  unfold pkV at C1
  have C1 := Lib.hid C1
  have k0 : W.cell? ⟨w.heap.size, 0, none⟩ = some (.int .i64 p.kind) := HB.out.cell 0
  clear hB hA mA hP h hk
  unfold pkV
  go_enter Tryd.func26, Tryd.ntmps26
  go_wp2_with (refine wpList_load_row rfl 45 (.tmp 3) rfl w.heap.size rfl 45 (pkA .u8 p m) (0, 0) _ HB.out Tryd.underlying45 rfl pk_size ?_)
  (with_reducible refine C1.out.mono ?_)
  rintro e w1 ⟨rfl, h1, m1⟩
  go_wp2
  go_end0
  have e : wBody o p = wEnd o p := by unfold wBody; rw [if_neg (by have := HK.out; omega), if_neg (by have := HK.out; omega), if_neg (by have := HK.out; omega), if_neg (by have := HK.out; omega), if_pos (by have := HK.out; omega)]
  rw [e]
  exact ⟨rfl, h1, MA.out.trans m1⟩
set_option maxRecDepth 100000 in
set_option maxHeartbeats 8000000 in
theorem wbody_8 (W0 : World) (b : Nat) (o : Ot) (p : Pk) (m : Hs) (w : World) (hP : PkIn .u8 W0 p m) (hs : o.s.size ≤ 1048000) (h : Wst W0 b o w) (hT : Tabs W0) (hk : p.kind = 8) :
    Calls Tryd.prog 26 #[.pointer (some ⟨b, 0, none⟩), pkV .u8 p m] w fun e w' => WPost W0 b (wBody o p) w w' e := by
  have hB := Blk.new w (pkA .u8 p m) 45
  have hA := h.alloc (.cells (pkA .u8 p m) 45)
  have mA : ModT wT w (w.alloc (.cells (pkA .u8 p m) 45)) := ModT.of_below ((Below.refl _ _).alloc (Nat.le_refl _) _)
  obtain ⟨W, hW⟩ : ∃ W, w.alloc (.cells (pkA .u8 p m) 45) = W := ⟨_, rfl⟩
  rw [hW] at hB hA mA
  have HB := Lib.hid hB
  have HA := Lib.hid hA
  have MA := Lib.hid mA
  have HP := Lib.hid hP
  have HK := Lib.hid hk
  have t1 : (p.kind == 1) = false := by rw [HK.out]; rfl
  have t2 : (p.kind == 2) = false := by rw [HK.out]; rfl
  have t3 : (p.kind == 3) = false := by rw [HK.out]; rfl
  have t4 : (p.kind == 4) = false := by rw [HK.out]; rfl
  have t5 : (p.kind == 5) = false := by rw [HK.out]; rfl
  have t6 : (p.kind == 6) = false := by rw [HK.out]; rfl
  have t7 : (p.kind == 7) = false := by rw [HK.out]; rfl
  have t14 : (p.kind == 14) = false := by rw [HK.out]; rfl
  have t15 : (p.kind == 15) = false := by rw [HK.out]; rfl
  have t8 : (p.kind == 8) = true := by rw [HK.out]; rfl
  have C1 := wlists_any W0 b o p m W hP (by omega) hA hT
  unfold pkV at C1
  have C1 := Lib.hid C1
  have k0 : W.cell? ⟨w.heap.size, 0, none⟩ = some (.int .i64 p.kind) := HB.out.cell 0
  clear hB hA mA hP h hk
  unfold pkV
  go_enter Tryd.func26, Tryd.ntmps26
  go_wp2_with (refine wpList_load_row rfl 45 (.tmp 3) rfl w.heap.size rfl 45 (pkA .u8 p m) (0, 0) _ HB.out Tryd.underlying45 rfl pk_size ?_)
  (with_reducible refine C1.out.mono ?_)
  rintro e w1 ⟨rfl, h1, m1⟩
  go_wp2
  go_end0
  have e : wBody o p = wLists o p := by unfold wBody; rw [if_neg (by have := HK.out; omega), if_neg (by have := HK.out; omega), if_neg (by have := HK.out; omega), if_neg (by have := HK.out; omega), if_neg (by have := HK.out; omega), if_pos (by have := HK.out; omega)]
  rw [e]
  exact ⟨rfl, h1, MA.out.trans m1⟩
set_option maxRecDepth 100000 in
set_option maxHeartbeats 8000000 in
theorem wbody_9 (W0 : World) (b : Nat) (o : Ot) (p : Pk) (m : Hs) (w : World) (hP : PkIn .u8 W0 p m) (hs : o.s.size ≤ 1048000) (h : Wst W0 b o w) (hT : Tabs W0) (hk : p.kind = 9) :
    Calls Tryd.prog 26 #[.pointer (some ⟨b, 0, none⟩), pkV .u8 p m] w fun e w' => WPost W0 b (wBody o p) w w' e := by
  have hB := Blk.new w (pkA .u8 p m) 45
  have hA := h.alloc (.cells (pkA .u8 p m) 45)
  have mA : ModT wT w (w.alloc (.cells (pkA .u8 p m) 45)) := ModT.of_below ((Below.refl _ _).alloc (Nat.le_refl _) _)
  obtain ⟨W, hW⟩ : ∃ W, w.alloc (.cells (pkA .u8 p m) 45) = W := ⟨_, rfl⟩
  rw [hW] at hB hA mA
  have HB := Lib.hid hB
  have HA := Lib.hid hA
  have MA := Lib.hid mA
  have HP := Lib.hid hP
  have HK := Lib.hid hk
  have t1 : (p.kind == 1) = false := by rw [HK.out]; rfl
  have t2 : (p.kind == 2) = false := by rw [HK.out]; rfl
  have t3 : (p.kind == 3) = false := by rw [HK.out]; rfl
  have t4 : (p.kind == 4) = false := by rw [HK.out]; rfl
  have t5 : (p.kind == 5) = false := by rw [HK.out]; rfl
  have t6 : (p.kind == 6) = false := by rw [HK.out]; rfl
  have t7 : (p.kind == 7) = false := by rw [HK.out]; rfl
  have t14 : (p.kind == 14) = false := by rw [HK.out]; rfl
  have t15 : (p.kind == 15) = false := by rw [HK.out]; rfl
  have t8 : (p.kind == 8) = false := by rw [HK.out]; rfl
  have t9 : (p.kind == 9) = true := by rw [HK.out]; rfl
  have C1 := wlists_any W0 b o p m W hP (by omega) hA hT
  unfold pkV at C1
  have C1 := Lib.hid C1
  have k0 : W.cell? ⟨w.heap.size, 0, none⟩ = some (.int .i64 p.kind) := HB.out.cell 0
  clear hB hA mA hP h hk
  unfold pkV
  go_enter Tryd.func26, Tryd.ntmps26
  go_wp2_with (refine wpList_load_row rfl 45 (.tmp 3) rfl w.heap.size rfl 45 (pkA .u8 p m) (0, 0) _ HB.out Tryd.underlying45 rfl pk_size ?_)
  (with_reducible refine C1.out.mono ?_)
  rintro e w1 ⟨rfl, h1, m1⟩
  go_wp2
  go_end0
  have e : wBody o p = wLists o p := by unfold wBody; rw [if_neg (by have := HK.out; omega), if_neg (by have := HK.out; omega), if_neg (by have := HK.out; omega), if_neg (by have := HK.out; omega), if_neg (by have := HK.out; omega), if_pos (by have := HK.out; omega)]
  rw [e]
  exact ⟨rfl, h1, MA.out.trans m1⟩
set_option maxRecDepth 100000 in
set_option maxHeartbeats 8000000 in
theorem wbody_10 (W0 : World) (b : Nat) (o : Ot) (p : Pk) (m : Hs) (w : World) (hP : PkIn .u8 W0 p m) (hs : o.s.size ≤ 1048000) (h : Wst W0 b o w) (hT : Tabs W0) (hk : p.kind = 10) :
    Calls Tryd.prog 26 #[.pointer (some ⟨b, 0, none⟩), pkV .u8 p m] w fun e w' => WPost W0 b (wBody o p) w w' e := by
  have hB := Blk.new w (pkA .u8 p m) 45
  have hA := h.alloc (.cells (pkA .u8 p m) 45)
  have mA : ModT wT w (w.alloc (.cells (pkA .u8 p m) 45)) := ModT.of_below ((Below.refl _ _).alloc (Nat.le_refl _) _)
  obtain ⟨W, hW⟩ : ∃ W, w.alloc (.cells (pkA .u8 p m) 45) = W := ⟨_, rfl⟩
  rw [hW] at hB hA mA
  have HB := Lib.hid hB
  have HA := Lib.hid hA
  have MA := Lib.hid mA
  have HP := Lib.hid hP
  have HK := Lib.hid hk
  have t1 : (p.kind == 1) = false := by rw [HK.out]; rfl
  have t2 : (p.kind == 2) = false := by rw [HK.out]; rfl
  have t3 : (p.kind == 3) = false := by rw [HK.out]; rfl
  have t4 : (p.kind == 4) = false := by rw [HK.out]; rfl
  have t5 : (p.kind == 5) = false := by rw [HK.out]; rfl
  have t6 : (p.kind == 6) = false := by rw [HK.out]; rfl
  have t7 : (p.kind == 7) = false := by rw [HK.out]; rfl
  have t14 : (p.kind == 14) = false := by rw [HK.out]; rfl
  have t15 : (p.kind == 15) = false := by rw [HK.out]; rfl
  have t8 : (p.kind == 8) = false := by rw [HK.out]; rfl
  have t9 : (p.kind == 9) = false := by rw [HK.out]; rfl
  have t10 : (p.kind == 10) = true := by rw [HK.out]; rfl
  have C1 := wlists_any W0 b o p m W hP (by omega) hA hT
  unfold pkV at C1
  have C1 := Lib.hid C1
  have k0 : W.cell? ⟨w.heap.size, 0, none⟩ = some (.int .i64 p.kind) := HB.out.cell 0
  clear hB hA mA hP h hk
  unfold pkV
  go_enter Tryd.func26, Tryd.ntmps26
  go_wp2_with (refine wpList_load_row rfl 45 (.tmp 3) rfl w.heap.size rfl 45 (pkA .u8 p m) (0, 0) _ HB.out Tryd.underlying45 rfl pk_size ?_)
  (with_reducible refine C1.out.mono ?_)
  rintro e w1 ⟨rfl, h1, m1⟩
  go_wp2
  go_end0
  have e : wBody o p = wLists o p := by unfold wBody; rw [if_neg (by have := HK.out; omega), if_neg (by have := HK.out; omega), if_neg (by have := HK.out; omega), if_neg (by have := HK.out; omega), if_neg (by have := HK.out; omega), if_pos (by have := HK.out; omega)]
  rw [e]
  exact ⟨rfl, h1, MA.out.trans m1⟩
set_option maxRecDepth 100000 in
set_option maxHeartbeats 8000000 in
theorem wbody_11 (W0 : World) (b : Nat) (o : Ot) (p : Pk) (m : Hs) (w : World) (hP : PkIn .u8 W0 p m) (hs : o.s.size ≤ 1048000) (h : Wst W0 b o w) (hT : Tabs W0) (hk : p.kind = 11) :
    Calls Tryd.prog 26 #[.pointer (some ⟨b, 0, none⟩), pkV .u8 p m] w fun e w' => WPost W0 b (wBody o p) w w' e := by
  have hB := Blk.new w (pkA .u8 p m) 45
  have hA := h.alloc (.cells (pkA .u8 p m) 45)
  have mA : ModT wT w (w.alloc (.cells (pkA .u8 p m) 45)) := ModT.of_below ((Below.refl _ _).alloc (Nat.le_refl _) _)
  obtain ⟨W, hW⟩ : ∃ W, w.alloc (.cells (pkA .u8 p m) 45) = W := ⟨_, rfl⟩
  rw [hW] at hB hA mA
  have HB := Lib.hid hB
  have HA := Lib.hid hA
  have MA := Lib.hid mA
  have HP := Lib.hid hP
  have HK := Lib.hid hk
  have t1 : (p.kind == 1) = false := by rw [HK.out]; rfl
  have t2 : (p.kind == 2) = false := by rw [HK.out]; rfl
  have t3 : (p.kind == 3) = false := by rw [HK.out]; rfl
  have t4 : (p.kind == 4) = false := by rw [HK.out]; rfl
  have t5 : (p.kind == 5) = false := by rw [HK.out]; rfl
  have t6 : (p.kind == 6) = false := by rw [HK.out]; rfl
  have t7 : (p.kind == 7) = false := by rw [HK.out]; rfl
  have t14 : (p.kind == 14) = false := by rw [HK.out]; rfl
  have t15 : (p.kind == 15) = false := by rw [HK.out]; rfl
  have t8 : (p.kind == 8) = false := by rw [HK.out]; rfl
  have t9 : (p.kind == 9) = false := by rw [HK.out]; rfl
  have t10 : (p.kind == 10) = false := by rw [HK.out]; rfl
  have t11 : (p.kind == 11) = true := by rw [HK.out]; rfl
  have C1 := wlists_any W0 b o p m W hP (by omega) hA hT
  unfold pkV at C1
  have C1 := Lib.hid C1
  have k0 : W.cell? ⟨w.heap.size, 0, none⟩ = some (.int .i64 p.kind) := HB.out.cell 0
  clear hB hA mA hP h hk
  unfold pkV
  go_enter Tryd.func26, Tryd.ntmps26
  go_wp2_with (refine wpList_load_row rfl 45 (.tmp 3) rfl w.heap.size rfl 45 (pkA .u8 p m) (0, 0) _ HB.out Tryd.underlying45 rfl pk_size ?_)
  (with_reducible refine C1.out.mono ?_)
  rintro e w1 ⟨rfl, h1, m1⟩
  go_wp2
  go_end0
  have e : wBody o p = wLists o p := by unfold wBody; rw [if_neg (by have := HK.out; omega), if_neg (by have := HK.out; omega), if_neg (by have := HK.out; omega), if_neg (by have := HK.out; omega), if_neg (by have := HK.out; omega), if_pos (by have := HK.out; omega)]
  rw [e]
  exact ⟨rfl, h1, MA.out.trans m1⟩
set_option maxRecDepth 100000 in
set_option maxHeartbeats 8000000 in
theorem wbody_o (W0 : World) (b : Nat) (o : Ot) (p : Pk) (m : Hs) (w : World) (hP : PkIn .u8 W0 p m) (hs : o.s.size ≤ 1048000) (h : Wst W0 b o w) (hT : Tabs W0) (hk : ∀ j ∈ ([1, 2, 3, 4, 5, 6, 7, 8, 9, 10, 11, 14, 15] : List Int), p.kind ≠ j) :
    Calls Tryd.prog 26 #[.pointer (some ⟨b, 0, none⟩), pkV .u8 p m] w fun e w' => WPost W0 b (wBody o p) w w' e := by
  have hB := Blk.new w (pkA .u8 p m) 45
  have hA := h.alloc (.cells (pkA .u8 p m) 45)
  have mA : ModT wT w (w.alloc (.cells (pkA .u8 p m) 45)) := ModT.of_below ((Below.refl _ _).alloc (Nat.le_refl _) _)
  obtain ⟨W, hW⟩ : ∃ W, w.alloc (.cells (pkA .u8 p m) 45) = W := ⟨_, rfl⟩
  rw [hW] at hB hA mA
  have HB := Lib.hid hB
  have HA := Lib.hid hA
  have MA := Lib.hid mA
  have HP := Lib.hid hP
  have HK := Lib.hid hk
  have t1 : (p.kind == 1) = false := beq_eq_false_iff_ne.2 (fun c => HK.out 1 (by decide) c)
  have t2 : (p.kind == 2) = false := beq_eq_false_iff_ne.2 (fun c => HK.out 2 (by decide) c)
  have t3 : (p.kind == 3) = false := beq_eq_false_iff_ne.2 (fun c => HK.out 3 (by decide) c)
  have t4 : (p.kind == 4) = false := beq_eq_false_iff_ne.2 (fun c => HK.out 4 (by decide) c)
  have t5 : (p.kind == 5) = false := beq_eq_false_iff_ne.2 (fun c => HK.out 5 (by decide) c)
  have t6 : (p.kind == 6) = false := beq_eq_false_iff_ne.2 (fun c => HK.out 6 (by decide) c)
  have t7 : (p.kind == 7) = false := beq_eq_false_iff_ne.2 (fun c => HK.out 7 (by decide) c)
  have t14 : (p.kind == 14) = false := beq_eq_false_iff_ne.2 (fun c => HK.out 14 (by decide) c)
  have t15 : (p.kind == 15) = false := beq_eq_false_iff_ne.2 (fun c => HK.out 15 (by decide) c)
  have t8 : (p.kind == 8) = false := beq_eq_false_iff_ne.2 (fun c => HK.out 8 (by decide) c)
  have t9 : (p.kind == 9) = false := beq_eq_false_iff_ne.2 (fun c => HK.out 9 (by decide) c)
  have t10 : (p.kind == 10) = false := beq_eq_false_iff_ne.2 (fun c => HK.out 10 (by decide) c)
  have t11 : (p.kind == 11) = false := beq_eq_false_iff_ne.2 (fun c => HK.out 11 (by decide) c)
  have k0 : W.cell? ⟨w.heap.size, 0, none⟩ = some (.int .i64 p.kind) := HB.out.cell 0
  clear hB hA mA hP h hk
  unfold pkV
  go_enter Tryd.func26, Tryd.ntmps26
  go_wp2
  go_end0
  have e : wBody o p = o := by
    have h1 := HK.out 1 (by decide); have h2 := HK.out 2 (by decide); have h3 := HK.out 3 (by decide); have h4 := HK.out 4 (by decide); have h5 := HK.out 5 (by decide); have h6 := HK.out 6 (by decide); have h7 := HK.out 7 (by decide); have h8 := HK.out 8 (by decide); have h9 := HK.out 9 (by decide); have h10 := HK.out 10 (by decide); have h11 := HK.out 11 (by decide); have h14 := HK.out 14 (by decide); have h15 := HK.out 15 (by decide)
    unfold wBody
    rw [if_neg h1, if_neg h2, if_neg h3, if_neg (by omega), if_neg (by omega), if_neg (by omega)]
  rw [e]
  exact ⟨rfl, HA.out, MA.out⟩
theorem wbody_any (W0 : World) (b : Nat) (o : Ot) (p : Pk) (m : Hs) (w : World) (hP : PkIn .u8 W0 p m) (hs : o.s.size ≤ 1048000) (h : Wst W0 b o w) (hT : Tabs W0) :
    Calls Tryd.prog 26 #[.pointer (some ⟨b, 0, none⟩), pkV .u8 p m] w fun e w' => WPost W0 b (wBody o p) w w' e := by
  by_cases c1 : p.kind = 1
  · exact wbody_1 W0 b o p m w hP hs h hT c1
  by_cases c2 : p.kind = 2
  · exact wbody_2 W0 b o p m w hP hs h hT c2
  by_cases c3 : p.kind = 3
  · exact wbody_3 W0 b o p m w hP hs h hT c3
  by_cases c4 : p.kind = 4
  · exact wbody_4 W0 b o p m w hP hs h hT c4
  by_cases c5 : p.kind = 5
  · exact wbody_5 W0 b o p m w hP hs h hT c5
  by_cases c6 : p.kind = 6
  · exact wbody_6 W0 b o p m w hP hs h hT c6
  by_cases c7 : p.kind = 7
  · exact wbody_7 W0 b o p m w hP hs h hT c7
  by_cases c14 : p.kind = 14
  · exact wbody_14 W0 b o p m w hP hs h hT c14
  by_cases c15 : p.kind = 15
  · exact wbody_15 W0 b o p m w hP hs h hT c15
  by_cases c8 : p.kind = 8
  · exact wbody_8 W0 b o p m w hP hs h hT c8
  by_cases c9 : p.kind = 9
  · exact wbody_9 W0 b o p m w hP hs h hT c9
  by_cases c10 : p.kind = 10
  · exact wbody_10 W0 b o p m w hP hs h hT c10
  by_cases c11 : p.kind = 11
  · exact wbody_11 W0 b o p m w hP hs h hT c11
  refine wbody_o W0 b o p m w hP hs h hT (fun j hj => ?_)
  simp only [List.mem_cons, List.not_mem_nil, or_false] at hj
  rcases hj with rfl | rfl | rfl | rfl | rfl | rfl | rfl | rfl | rfl | rfl | rfl | rfl | rfl <;> assumption
end Go.Proofs.YtedapgeabpadaaaDoor
