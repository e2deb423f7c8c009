/- Parts of the proof, joined: Wr2, Kind, PropF, PutV, PutW. -/
import Derived.Test.YtlnanenfpapfkaaDoorH5P7
import Derived.Test.YtlnanenfpapfkaaDoorH5P3
import Derived.Test.YtlnanenfpapfkaaDoorRows
import Derived.Test.YtlnanenfpapfkaaDoorH5P1
import Derived.WalkLawsBesides
import Derived.WalkSpells
import Derived.Handy
import Derived.Test.YtlnanenfpapfkaaDoorH5P5
import Derived.Shelf.Abstract
import Derived.Deep.RegionHeld3
/- The walks of a packet's writer: fail, part, numbers, texts, data, qos, id, some, bit. -/
set_option linter.unusedVariables false
namespace Go.Proofs.YtlnanenfpapfkaaDoor
open Go.Shelf Go.RowKit Pl

/-- A writer in a world that has grown out of another. -/
structure Wst (W0 : World) (b : Nat) (o : Ot) (w : World) : Prop where
  below : Below W0.heap.size W0 w
  wr : WrAt W0.heap.size b o.s o.c w
def WPost (W0 : World) (b : Nat) (o : Ot) (w w' : World) (e : Ending) : Prop := e = .returned (.tuple #[]) ∧ Wst W0 b o w' ∧ ModT wT w w'
theorem Wst.step {W0 : World} {b : Nat} {o : Ot} {w w' : World} (h : Wst W0 b o w) (m : Below w.heap.size w w') : Wst W0 b o w' := ⟨h.below.trans (m.mono h.below.size), wr_below h.wr m⟩
theorem Wst.alloc {W0 : World} {b : Nat} {o : Ot} {w : World} (h : Wst W0 b o w) (x : Obj) : Wst W0 b o (w.alloc x) := h.step ((Below.refl _ _).alloc (Nat.le_refl _) x)
theorem wr_blk {B b : Nat} {s : ByteArray} {c : Int} {w : World} (h : WrAt B b s c w) : ∃ p v, Blk w b #[p, v, .int .u8 c] 71 := by
  obtain ⟨_, p, v, _, hb, _⟩ := h
  exact ⟨p, v, hb⟩
theorem wr_set {B b : Nat} {s : ByteArray} {c d : Int} {w : World} (h : WrAt B b s c w) : WrAt B b s d (w.setCell ⟨b, 2, none⟩ (.int .u8 d)) := by
  obtain ⟨hB, p, v, hp, hb, hown⟩ := h
  have hne : v.ownBlock ≠ some b := own_ne hown hb (by decide)
  exact ⟨hB, p, v, hp, hb.set 2 _, own_mod hown ((Mod.refl (· = b) w).setCell (p := ⟨b, 2, none⟩) (.inl rfl) _) (fun g e c => hne (e.trans (by rw [c])))⟩
set_option maxHeartbeats 1000000 in
theorem wfail_any (W0 : World) (b : Nat) (o : Ot) (d : Int) (w : World) (h : Wst W0 b o w) :
    Calls Tryd.prog 16 #[.pointer (some ⟨b, 0, none⟩), .int .u8 d] w fun e w' => WPost W0 b (o.fail d) w w' e := by
  obtain ⟨p, v, hb⟩ := wr_blk h.wr
  have c2 := hb.cell 2
  simp only [List.getElem?_toArray, List.getElem?_cons_zero, List.getElem?_cons_succ] at c2
  have f2 := hb.frozen 2
  have HB := Lib.hid hb
  have HH := Lib.hid h
  clear hb h
  by_cases hc : o.c = 0
  · rw [hc] at c2
    have HC := Lib.hid hc
    clear hc
    go_enter Tryd.func16, Tryd.ntmps16
    go_wp2
    go_end0
    refine ⟨rfl, ⟨HH.out.below.setCell (p := ⟨b, 2, none⟩) HH.out.wr.1 _, ?_⟩, (ModT.refl _ _).set HB.out (.inl rfl) 2 _⟩
    have e : (o.fail d).c = d := by unfold Ot.fail mix; rw [HC.out]; rfl
    rw [e]
    exact wr_set HH.out.wr
  · have e0 : (o.c == 0) = false := beq_eq_false_iff_ne.2 hc
    have HC := Lib.hid hc
    clear hc
    go_enter Tryd.func16, Tryd.ntmps16
    go_wp2
    go_end0
    have e : o.fail d = o := by unfold Ot.fail mix; rw [if_neg HC.out]
    rw [e]
    exact ⟨rfl, HH.out, ModT.refl _ _⟩
set_option maxHeartbeats 1000000 in
theorem wpart_any (W0 : World) (b : Nat) (o : Ot) (t : ByteArray) (d : Int) (w : World) (hs : o.s.size + t.size ≤ 140737488355328) (h : Wst W0 b o w) :
    Calls Tryd.prog 65 #[.pointer (some ⟨b, 0, none⟩), .string t, .int .u8 d] w fun e w' => WPost W0 b (o.add t d) w w' e := by
  have CF := Lib.hid (wfail_any W0 b o d w h)
  have HS := Lib.hid hs
  clear h hs
  go_enter Tryd.func65, Tryd.ntmps65
  go_wp2_with fail
  (with_reducible refine CF.out.mono ?_)
  rintro e w1 ⟨rfl, h1, m1⟩
  have HH := Lib.hid h1
  have HM := Lib.hid m1
  have CW := Lib.hid (wws_any W0.heap.size b (o.fail d).s t (o.fail d).c w1 h1.wr (by rw [fail_size]; exact HS.out) h1.below.size)
  clear h1 m1
  go_wp2_with fail
  (with_reducible refine CW.out.mono ?_)
  rintro e w2 ⟨rfl, h2, b2, m2⟩
  go_wp2
  go_end0
  exact ⟨rfl, ⟨HH.out.below.trans b2, h2⟩, HM.out.trans m2⟩
theorem wbyte_any (W0 : World) (b : Nat) (o : Ot) (n : Int) (w : World) (hs : o.s.size ≤ 1099511627776) (h : Wst W0 b o w) :
    Calls Tryd.prog 33 #[.pointer (some ⟨b, 0, none⟩), .int .i64 n] w fun e w' => WPost W0 b (wNum 1 o n) w w' e := by
  have HH := Lib.hid h
  have HS := Lib.hid hs
  clear h hs
  go_enter Tryd.func33, Tryd.ntmps33
  go_wp2_with fail
  (with_reducible refine (fixed_all 1 n _).mono ?_)
  rintro e w1 ⟨rfl, b1⟩
  have HM := Lib.hid (ModT.of_below (T := wT) b1)
  have CP := Lib.hid (wpart_any W0 b o ⟨(fixS 1 n).toArray⟩ (fixC 1 n) w1 (by have := HS.out; have h2 := fixS_len 1 n; show o.s.size + (fixS 1 n).toArray.size ≤ _; simp at h2 ⊢; omega) (HH.out.step b1))
  clear b1
  go_wp2_with fail
  (with_reducible refine CP.out.mono ?_)
  rintro e w2 ⟨rfl, h2, m2⟩
  go_wp2
  go_end0
  exact ⟨rfl, h2, HM.out.trans m2⟩
theorem wtwo_any (W0 : World) (b : Nat) (o : Ot) (n : Int) (w : World) (hs : o.s.size ≤ 1099511627776) (h : Wst W0 b o w) :
    Calls Tryd.prog 63 #[.pointer (some ⟨b, 0, none⟩), .int .i64 n] w fun e w' => WPost W0 b (wNum 2 o n) w w' e := by
  have HH := Lib.hid h
  have HS := Lib.hid hs
  clear h hs
  go_enter Tryd.func63, Tryd.ntmps63
  go_wp2_with fail
  (with_reducible refine (fixed_all 2 n _).mono ?_)
  rintro e w1 ⟨rfl, b1⟩
  have HM := Lib.hid (ModT.of_below (T := wT) b1)
  have CP := Lib.hid (wpart_any W0 b o ⟨(fixS 2 n).toArray⟩ (fixC 2 n) w1 (by have := HS.out; have h2 := fixS_len 2 n; show o.s.size + (fixS 2 n).toArray.size ≤ _; simp at h2 ⊢; omega) (HH.out.step b1))
  clear b1
  go_wp2_with fail
  (with_reducible refine CP.out.mono ?_)
  rintro e w2 ⟨rfl, h2, m2⟩
  go_wp2
  go_end0
  exact ⟨rfl, h2, HM.out.trans m2⟩
theorem wtext_any (W0 : World) (b : Nat) (o : Ot) (t : ByteArray) (w : World) (ht : t.size ≤ 140737488351232) (hs : o.s.size ≤ 1099511627776) (h : Wst W0 b o w) (hT : Tabs W0) :
    Calls Tryd.prog 62 #[.pointer (some ⟨b, 0, none⟩), .string t] w fun e w' => WPost W0 b (wText o t) w w' e := by
  have HH := Lib.hid h
  have HS := Lib.hid hs
  have CT := Lib.hid (tput_any t w ht (hT.below h.below))
  clear h hs
  go_enter Tryd.func62, Tryd.ntmps62
  go_wp2_with fail
  (with_reducible refine CT.out.mono ?_)
  rintro e w1 ⟨rfl, b1⟩
  have HM := Lib.hid (ModT.of_below (T := wT) b1)
  have CP := Lib.hid (wpart_any W0 b o (tputS t) (tputC t) w1 (by have := HS.out; have h2 := tputS_small t; omega) (HH.out.step b1))
  clear b1
  go_wp2_with fail
  (with_reducible refine CP.out.mono ?_)
  rintro e w2 ⟨rfl, h2, m2⟩
  go_wp2
  go_end0
  exact ⟨rfl, h2, HM.out.trans m2⟩
theorem wdata_any (W0 : World) (b : Nat) (o : Ot) (t : ByteArray) (w : World) (ht : t.size ≤ 140737488351232) (hs : o.s.size ≤ 1099511627776) (h : Wst W0 b o w) :
    Calls Tryd.prog 64 #[.pointer (some ⟨b, 0, none⟩), .string t] w fun e w' => WPost W0 b (wData o t) w w' e := by
  have HH := Lib.hid h
  have HS := Lib.hid hs
  have CT := Lib.hid (data_all t w ht)
  clear h hs
  go_enter Tryd.func64, Tryd.ntmps64
  go_wp2_with fail
  (with_reducible refine CT.out.mono ?_)
  rintro e w1 ⟨rfl, b1⟩
  have HM := Lib.hid (ModT.of_below (T := wT) b1)
  have CP := Lib.hid (wpart_any W0 b o (dataS t) (dataC t) w1 (by have := HS.out; have h2 := dataS_small t; omega) (HH.out.step b1))
  clear b1
  go_wp2_with fail
  (with_reducible refine CP.out.mono ?_)
  rintro e w2 ⟨rfl, h2, m2⟩
  go_wp2
  go_end0
  exact ⟨rfl, h2, HM.out.trans m2⟩
theorem wqos_any (W0 : World) (b : Nat) (o : Ot) (n : Int) (w : World) (h : Wst W0 b o w) :
    Calls Tryd.prog 15 #[.pointer (some ⟨b, 0, none⟩), .int .i64 n] w fun e w' => WPost W0 b (wQos o n) w w' e := by
  have HH := Lib.hid h
  have CF := Lib.hid (wfail_any W0 b o 129 w h)
  obtain ⟨O, hO⟩ : ∃ O, wQos o n = O := ⟨_, rfl⟩
  rw [hO]
  unfold wQos at hO
  clear h
  by_cases h1 : n < 0
  · rw [if_pos (.inl h1)] at hO
    subst hO
    go_enter Tryd.func15, Tryd.ntmps15
    go_wp2_with fail
    (with_reducible refine CF.out.mono ?_)
    rintro e w1 ⟨rfl, h1, m1⟩
    go_wp2
    go_end0
    exact ⟨rfl, h1, m1⟩
  · by_cases h2 : 2 < n
    · rw [if_pos (.inr h2)] at hO
      subst hO
      go_enter Tryd.func15, Tryd.ntmps15
      go_wp2_with fail
      (with_reducible refine CF.out.mono ?_)
      rintro e w1 ⟨rfl, h1, m1⟩
      go_wp2
      go_end0
      exact ⟨rfl, h1, m1⟩
    · rw [if_neg (by omega)] at hO
      subst hO
      go_enter Tryd.func15, Tryd.ntmps15
      go_wp2
      go_end0
      exact ⟨rfl, HH.out, ModT.refl _ _⟩
theorem wid_any (W0 : World) (b : Nat) (o : Ot) (n : Int) (w : World) (hs : o.s.size ≤ 1099511627776) (h : Wst W0 b o w) :
    Calls Tryd.prog 36 #[.pointer (some ⟨b, 0, none⟩), .int .i64 n] w fun e w' => WPost W0 b (wId o n) w w' e := by
  have CF := Lib.hid (wfail_any W0 b o 130 w h)
  have CN := Lib.hid (wtwo_any W0 b o n w hs h)
  obtain ⟨O, hO⟩ : ∃ O, wId o n = O := ⟨_, rfl⟩
  rw [hO]
  unfold wId at hO
  clear h hs
  by_cases h1 : n < 1
  · rw [if_pos (.inl h1)] at hO
    subst hO
    go_enter Tryd.func36, Tryd.ntmps36
    go_wp2_with fail
    (with_reducible refine CF.out.mono ?_)
    rintro e w1 ⟨rfl, h1, m1⟩
    go_wp2
    refine bodyPost_ret (results_none Tryd.results36 _ _ _) rfl ?_
    exact ⟨rfl, h1, m1⟩
  · by_cases h2 : 65535 < n
    · rw [if_pos (.inr h2)] at hO
      subst hO
      go_enter Tryd.func36, Tryd.ntmps36
      go_wp2_with fail
      (with_reducible refine CF.out.mono ?_)
      rintro e w1 ⟨rfl, h1, m1⟩
      go_wp2
      refine bodyPost_ret (results_none Tryd.results36 _ _ _) rfl ?_
      exact ⟨rfl, h1, m1⟩
    · rw [if_neg (by omega)] at hO
      subst hO
      go_enter Tryd.func36, Tryd.ntmps36
      go_wp2_with fail
      (with_reducible refine CN.out.mono ?_)
      rintro e w1 ⟨rfl, h1, m1⟩
      go_wp2
      go_end0
      exact ⟨rfl, h1, m1⟩
theorem wsome_any (W0 : World) (b : Nat) (o : Ot) (n : Int) (w : World) (h : Wst W0 b o w) :
    Calls Tryd.prog 71 #[.pointer (some ⟨b, 0, none⟩), .int .i64 n] w fun e w' => WPost W0 b (wSome o n) w w' e := by
  have HH := Lib.hid h
  have CF := Lib.hid (wfail_any W0 b o 130 w h)
  have CG := Lib.hid (wfail_any W0 b o 149 w h)
  obtain ⟨O, hO⟩ : ∃ O, wSome o n = O := ⟨_, rfl⟩
  rw [hO]
  unfold wSome at hO
  clear h
  by_cases h1 : n = 0
  · rw [if_pos h1] at hO
    subst hO
    subst h1
    go_enter Tryd.func71, Tryd.ntmps71
    go_wp2_with fail
    (with_reducible refine CF.out.mono ?_)
    rintro e w1 ⟨rfl, h1, m1⟩
    go_wp2
    go_end0
    exact ⟨rfl, h1, m1⟩
  · have e0 : (n == 0) = false := beq_eq_false_iff_ne.2 h1
    rw [if_neg h1] at hO
    clear h1
    by_cases h2 : 64 < n
    · rw [if_pos h2] at hO
      subst hO
      go_enter Tryd.func71, Tryd.ntmps71
      go_wp2_with fail
      (with_reducible refine CG.out.mono ?_)
      rintro e w1 ⟨rfl, h1, m1⟩
      go_wp2
      go_end0
      exact ⟨rfl, h1, m1⟩
    · rw [if_neg h2] at hO
      subst hO
      go_enter Tryd.func71, Tryd.ntmps71
      go_wp2
      go_end0
      exact ⟨rfl, HH.out, ModT.refl _ _⟩
theorem bit_any (x : Bool) (n : Int) (w : World) : Calls Tryd.prog 17 #[.bool x, .int .i64 n] w fun e w' => e = .returned (.int .i64 (bt1 x n)) ∧ w = w' := by
  cases x
  · go_enter Tryd.func17, Tryd.ntmps17
    go_wp2
    go_ret
    exact ⟨rfl, rfl⟩
  · go_enter Tryd.func17, Tryd.ntmps17
    go_wp2
    go_ret
    exact ⟨rfl, rfl⟩
end Go.Proofs.YtlnanenfpapfkaaDoor

/- The walks of both KindOf functions. -/
namespace Go.Proofs.YtlnanenfpapfkaaDoor
open Go.RowKit Pl

set_option maxHeartbeats 1600000 in
theorem kind_any (n : Int) (w : World) : Calls Tryd.prog 87 #[.int .i64 n] w fun e w' => e = .returned (.int .i64 (kindOf n)) ∧ w = w' := by
  go_enter Tryd.func87, Tryd.ntmps87
  go_wp2
  all_goals go_ret
  all_goals first
    | exact ⟨ret_int (kindE ‹(n == _) = true› (by decide)), rfl⟩
    | exact ⟨ret_int (kindN ‹_› ‹_› ‹_› ‹_› ‹_› ‹_› ‹_› ‹_› ‹_› ‹_› ‹_› ‹_› ‹_› ‹_› ‹_› ‹_› ‹_› ‹_› ‹_› ‹_› ‹_› ‹_› ‹_› ‹_› ‹_› ‹_› ‹_›), rfl⟩

theorem refin_any (b : Nat) (l : List Int) (n : Int) (w : World) (hl : l.length ≤ 1000) (hc : ∀ j, j < l.length → w.cell? ⟨b, j, none⟩ = some (.int .i64 (l.getD j 0))) :
    Calls Tryd.prog 106 #[.int .i64 n, .slice (some ⟨b, 0, none⟩) l.length l.length] w fun e w' => e = .returned (.bool (isIn n l)) ∧ w = w' := by
  have Hc := Lib.hid hc
  clear hc
  go_enter Tryd.func106, Tryd.ntmps106
  go_wp2
  go_loop [5] (fun i => ∃ k : Nat, i = .int .i64 k ∧ k ≤ l.length ∧ Hid (∀ j, j < k → l.getD j 0 ≠ n)) (fun i => l.length - (intOf i).toNat)
  case atStart => exact ⟨0, rfl, by omega, fun j hj => absurd hj (by omega)⟩
  case round =>
    obtain ⟨k, rfl, hk, hno⟩ := hrel
    by_cases hlt : k < l.length
    · have hcell := Hc.out k hlt
      obtain ⟨x, hx⟩ : ∃ x, l.getD k 0 = x := ⟨_, rfl⟩
      rw [hx] at hcell
      have Hx := Lib.hid hx
      clear hx
      by_cases he : x = n
      · have hhit := Lib.hid (isIn_hit hlt (Hx.out.trans he))
        subst he
        go_wp2
        go_ret
        exact ⟨ret_bool hhit.out.symm, rfl⟩
      · have hne : (x == n) = false := by rw [beq_eq_false_iff_ne]; exact he
        go_wp2
        go_round
        case rel => exact ⟨k + 1, by go_num, by omega, fun j hj => by
          by_cases hjk : j = k
          · subst hjk; rw [Hx.out]; exact he
          · exact hno.out j (by omega)⟩
        case measure => simp [intOf]; omega
    · have hnone := Lib.hid (isIn_none (n := n) (l := l) fun j hj => hno.out j (by omega))
      go_wp2
      go_ret
      exact ⟨ret_bool hnone.out.symm, rfl⟩

set_option maxHeartbeats 1600000 in
theorem refkind_any (n : Int) (w : World) : Calls Tryd.prog 93 #[.int .i64 n] w fun e w' => e = .returned (.int .i64 (kindOf n)) ∧ Below w.heap.size w w' := by
  obtain ⟨a, ha⟩ : ∃ a, isIn n [1, 23, 25, 36, 37, 40, 41, 42] = a := ⟨_, rfl⟩
  obtain ⟨b, hb⟩ : ∃ a, isIn n [19, 33, 34, 35] = a := ⟨_, rfl⟩
  obtain ⟨c, hc⟩ : ∃ a, isIn n [2, 17, 24, 39] = a := ⟨_, rfl⟩
  obtain ⟨d, hd⟩ : ∃ a, isIn n [9, 22] = a := ⟨_, rfl⟩
  obtain ⟨f, hf⟩ : ∃ a, isIn n [3, 8, 18, 21, 26, 28, 31] = a := ⟨_, rfl⟩
  obtain ⟨k1, k2, k3, k4, k5, k6, k7, k0⟩ := kindW n ha hb hc hd hf
  have K0 := Lib.hid k0
  have K1 := Lib.hid k1
  have K2 := Lib.hid k2
  have K3 := Lib.hid k3
  have K4 := Lib.hid k4
  have K5 := Lib.hid k5
  have K6 := Lib.hid k6
  have K7 := Lib.hid k7
  clear k0 k1 k2 k3 k4 k5 k6 k7
  go_enter Tryd.func93, Tryd.ntmps93
  go_wp2_with fail
  refine (refin_any _ [1, 23, 25, 36, 37, 40, 41, 42] n _ (by decide) ?_).mono ?_
  · exact cells_new _ .i64 3 [1, 23, 25, 36, 37, 40, 41, 42] _ (by simp)
  rintro e w' ⟨rfl, rfl⟩
  rw [ha]
  go_wp2_with fail
  refine (refin_any _ [19, 33, 34, 35] n _ (by decide) ?_).mono ?_
  · exact cells_new _ .i64 3 [19, 33, 34, 35] _ (by simp)
  rintro e w' ⟨rfl, rfl⟩
  rw [hb]
  go_wp2_with fail
  refine (refin_any _ [2, 17, 24, 39] n _ (by decide) ?_).mono ?_
  · exact cells_new _ .i64 3 [2, 17, 24, 39] _ (by simp)
  rintro e w' ⟨rfl, rfl⟩
  rw [hc]
  go_wp2_with fail
  refine (refin_any _ [9, 22] n _ (by decide) ?_).mono ?_
  · exact cells_new _ .i64 3 [9, 22] _ (by simp)
  rintro e w' ⟨rfl, rfl⟩
  rw [hd]
  go_wp2_with fail
  refine (refin_any _ [3, 8, 18, 21, 26, 28, 31] n _ (by decide) ?_).mono ?_
  · exact cells_new _ .i64 3 [3, 8, 18, 21, 26, 28, 31] _ (by simp)
  rintro e w' ⟨rfl, rfl⟩
  rw [hf]
  clear ha hb hc hd hf
  go_wp2
  all_goals go_ret
  all_goals refine ⟨?_, ?_⟩
  all_goals first
    | exact ret_int (K1.out ‹_›)
    | exact ret_int (K2.out ‹_› ‹_›)
    | exact ret_int (K3.out ‹_› ‹_› ‹_›)
    | exact ret_int (K4.out ‹_› ‹_› ‹_› ‹_›)
    | exact ret_int (K5.out ‹_› ‹_› ‹_› ‹_› ‹_›)
    | exact ret_int (K6.out ‹_› ‹_› ‹_› ‹_› ‹_› ‹_›)
    | exact ret_int (K7.out ‹_› ‹_› ‹_› ‹_› ‹_› ‹_› ‹_›)
    | exact ret_int (K0.out ‹_› ‹_› ‹_› ‹_› ‹_› ‹_› ‹_›)
    | go_grown
end Go.Proofs.YtlnanenfpapfkaaDoor

/- The walks of both Find functions, of slices.IndexFunc at properties. -/
namespace Go.Proofs.YtlnanenfpapfkaaDoor
set_option linter.unusedVariables false
open Go.RowKit

def zP : Pp := ⟨0, 0, ⟨#[]⟩, ⟨#[]⟩⟩
theorem find1_any (B : Nat) (id : Int) (p : Pp) (w : World) (hB : w.cell? ⟨B, 0, none⟩ = some (.int .i64 id)) (hl : B < w.heap.size) :
    Calls Tryd.prog 114 #[.agg #[.int .i64 p.id, .int .i64 p.n, .string p.s, .string p.t], .pointer (some ⟨B, 0, none⟩)] w fun e w' => e = .returned (.bool (p.id == id)) ∧ Below w.heap.size w w' := by
  have e1 : (w.alloc (.cells #[.int .i64 p.id, .int .i64 p.n, .string p.s, .string p.t] 99)).cell? ⟨B, 0, none⟩ = some (.int .i64 id) := (World.cell?_alloc_past _ _ _ hl).trans hB
  obtain ⟨t, ht⟩ : ∃ t, (p.id == id) = t := ⟨_, rfl⟩
  rw [ht]
  go_enter Tryd.func114, Tryd.ntmps114
  go_wp2
  go_ret
  exact ⟨rfl, (Below.refl _ _).alloc (Nat.le_refl _) _⟩
theorem find_here {L : List Pp} {k : Nat} {x : Pp} {q : Pp → Bool} (hx : L[k]? = some x) (h : (L.take k).any q = false) (hq : q x = true) : L.find? q = some x := by
  have hk := (List.getElem?_eq_some_iff.1 hx).1
  have e : L = L.take k ++ x :: L.drop (k + 1) := by
    have h2 := List.drop_eq_getElem_cons hk
    rw [(List.getElem?_eq_some_iff.1 hx).2] at h2
    rw [← h2, List.take_append_drop]
  rw [e, List.find?_append, List.find?_cons_of_pos hq]
  have : (L.take k).find? q = none := by
    rw [List.find?_eq_none]
    intro y hy
    have := List.any_eq_false.1 h y hy
    exact this
  rw [this]; rfl
theorem find_not {L : List Pp} {q : Pp → Bool} (h : L.any q = false) : L.find? q = none := by
  rw [List.find?_eq_none]
  exact List.any_eq_false.1 h
theorem any_take_p {L : List Pp} {k : Nat} {x : Pp} {q : Pp → Bool} (hx : L[k]? = some x) (h : (L.take k).any q = false) (hq : q x = false) : (L.take (k + 1)).any q = false := by
  rw [List.take_add_one, hx, List.any_append, h]
  simp [hq]
set_option maxHeartbeats 1000000 in
theorem pindex_any (fn : Nat) (first cp : Array Value) (q : Pp → Bool) (A : Option Addr) (n cap : Nat) (L : List Pp) (w : World) (hn : L.length = n) (hm : n ≤ 1048576) (h : PRow w A L)
    (he : ∀ args w, (callFunc fn args).run Tryd.prog w = .ok (.enter fn args) w)
    (hf : ∀ (p : Pp) (W : World), Below w.heap.size w W → Calls Tryd.prog fn (first.push (.agg #[.int .i64 p.id, .int .i64 p.n, .string p.s, .string p.t]) ++ cp) W fun e w' => e = .returned (.bool (q p)) ∧ Below W.heap.size W w') :
    Calls Tryd.prog 90 #[.slice A n cap, .func (.func fn) first cp] w fun e w' => ∃ z : Int, e = .returned (.int .i64 z) ∧ ((z = -1 ∧ L.find? q = none) ∨ (∃ (k : Nat) (p : Pp), z = k ∧ L[k]? = some p ∧ L.find? q = some p)) ∧ Below w.heap.size w w' := by
  have H := Lib.hid h
  have HN := Lib.hid hn
  have HF := Lib.hid hf
  clear h hn hf
  go_enter Tryd.func90, Tryd.ntmps90
  go_wp2
  go_loopw [5, 8] (fun _ i wr => ∃ k : Nat, i = .int .i64 k ∧ k ≤ n ∧ Hid ((L.take k).any q = false) ∧ Below w.heap.size w wr) (fun _ i _ => n - (intOf i).toNat)
  case atStart => exact ⟨0, rfl, by omega, Lib.hid rfl, Below.refl _ _⟩
  case round =>
    obtain ⟨k, rfl, hk, hv, hbel⟩ := hrel
    by_cases hlt : k < n
    · obtain ⟨b, o, rfl, hl, hc⟩ := (H.out.below hbel) (by rw [HN.out]; omega)
      obtain ⟨x, hx⟩ : ∃ x, L[k]? = some x := ⟨_, List.getElem?_eq_getElem (by rw [HN.out]; exact hlt)⟩
      obtain ⟨e1, e2, e3, e4⟩ := hc k x hx
      have CF := HF.out x wr hbel
      obtain ⟨y, hy⟩ : ∃ y, q x = y := ⟨_, rfl⟩
      rw [hy] at CF
      have CF := Lib.hid CF
      have hkn : (k : Int) < (n : Int) := by omega
      cases y
      · have Hr := Lib.hid (any_take_p hx hv.out hy)
        clear hx hc hy
        go_wp2_with (go_at_fn fn; refine CF.out.mono ?_; rintro e w1 ⟨rfl, b1⟩)
        go_roundw
        case rel => exact ⟨k + 1, by go_num, by omega, Hr, hbel.trans (b1.mono hbel.size)⟩
        case measure => simp [intOf]; omega
      · have Hr := Lib.hid (find_here hx hv.out hy)
        have Hx := Lib.hid hx
        clear hx hc hy
        go_wp2_with (go_at_fn fn; refine CF.out.mono ?_; rintro e w1 ⟨rfl, b1⟩)
        go_ret
        exact ⟨_, rfl, .inr ⟨k, x, rfl, Hx.out, Hr.out⟩, hbel.trans (b1.mono hbel.size)⟩
    · have Hr := Lib.hid (show L.any q = false by
        have h := hv.out
        rw [List.take_of_length_le (by rw [HN.out]; omega)] at h
        exact h)
      go_wp2
      go_ret
      exact ⟨_, rfl, .inl ⟨rfl, find_not Hr.out⟩, hbel⟩
/-- The first of an identifier. -/
def fnd (L : List Pp) (id : Int) : Option Pp := L.find? fun p => p.id == id
set_option maxHeartbeats 1000000 in
theorem find_any (A : Option Addr) (n cap : Nat) (L : List Pp) (id : Int) (w : World) (hn : L.length = n) (hm : n ≤ 1048576) (h : PRow w A L) :
    Calls Tryd.prog 103 #[.slice A n cap, .int .i64 id] w fun e w' => e = .returned (.tuple #[ppV ((fnd L id).getD zP), .bool (fnd L id).isSome]) ∧ Below w.heap.size w w' := by
  have b0 : Below w.heap.size w ((w.alloc (.cells #[.int .i64 id] 3)).alloc (.cells #[.int .i64 0, .int .i64 0, .string ⟨#[]⟩, .string ⟨#[]⟩] 99)) := ((Below.refl _ _).alloc (Nat.le_refl _) _).alloc (by simp) _
  have hb0 : ((w.alloc (.cells #[.int .i64 id] 3)).alloc (.cells #[.int .i64 0, .int .i64 0, .string ⟨#[]⟩, .string ⟨#[]⟩] 99)).cell? ⟨w.heap.size, 0, none⟩ = some (.int .i64 id) := (World.cell?_alloc_past _ _ _ (by simp)).trans (World.cell?_alloc_at _ _ _ _ rfl)
  have hm0 : ∀ j, ((w.alloc (.cells #[.int .i64 id] 3)).alloc (.cells #[.int .i64 0, .int .i64 0, .string ⟨#[]⟩, .string ⟨#[]⟩] 99)).cell? ⟨w.heap.size + 1, j, none⟩ = (#[.int .i64 0, .int .i64 0, .string ⟨#[]⟩, .string ⟨#[]⟩] : Array Value)[j]? := fun j => World.cell?_alloc_at _ _ _ _ (by simp)
  have hf0 : ∀ j, ((w.alloc (.cells #[.int .i64 id] 3)).alloc (.cells #[.int .i64 0, .int .i64 0, .string ⟨#[]⟩, .string ⟨#[]⟩] 99)).frozen? ⟨w.heap.size + 1, j, none⟩ = false := fun j => by simp [go_sem]
  have hz0 : w.heap.size + 2 = ((w.alloc (.cells #[.int .i64 id] 3)).alloc (.cells #[.int .i64 0, .int .i64 0, .string ⟨#[]⟩, .string ⟨#[]⟩] 99)).heap.size := by simp
  obtain ⟨W, hW⟩ : ∃ W, (w.alloc (.cells #[.int .i64 id] 3)).alloc (.cells #[.int .i64 0, .int .i64 0, .string ⟨#[]⟩, .string ⟨#[]⟩] 99) = W := ⟨_, rfl⟩
  have hW2 := hW
  rw [hW] at b0 hb0 hm0 hf0 hz0
  have C := pindex_any 114 #[] #[.pointer (some ⟨w.heap.size, 0, none⟩)] (fun p => p.id == id) A n cap L W hn hm (h.below b0) (enters_of Tryd.func114 (by kernel_rfl) rfl) (fun p Y hb => find1_any w.heap.size id p Y ((hb.cell (p := ⟨w.heap.size, 0, none⟩) (by simp only; omega)).trans hb0) (Nat.lt_of_lt_of_le (by omega) hb.size))
  have H := Lib.hid (h.below b0)
  have HN := Lib.hid hn
  obtain ⟨R, hR⟩ : ∃ R, fnd L id = R := ⟨_, rfl⟩
  rw [hR]
  change (L.find? fun p => p.id == id) = R at hR
  rw [hR] at C
  have C := Lib.hid C
  have B0 := Lib.hid b0
  have M0 := Lib.hid hm0
  have F0 := Lib.hid hf0
  have HW := Lib.hid hW
  clear h hn hR b0 hm0 hf0 hW hb0 hW2
  go_enter Tryd.func103, Tryd.ntmps103
  go_wp2_with fail
  rw [HW.out]
  refine C.out.mono ?_
  rintro e w1 ⟨z, rfl, hz, b1⟩
  have hl1 : w.heap.size + 1 < w1.heap.size := by have := b1.size; omega
  have cc : ∀ j, w1.cell? ⟨w.heap.size + 1, j, none⟩ = _ := fun j => (b1.cell (p := ⟨w.heap.size + 1, j, none⟩) (by simp only; omega)).trans (M0.out j)
  have ff : ∀ j, w1.frozen? ⟨w.heap.size + 1, j, none⟩ = false := fun j => (b1.frozen (p := ⟨w.heap.size + 1, j, none⟩) (by simp only; omega)).trans (F0.out j)
  have m0 := cc 0
  have m1 := cc 1
  have m2 := cc 2
  have m3 := cc 3
  simp only [List.getElem?_toArray, List.getElem?_cons_zero, List.getElem?_cons_succ] at m0 m1 m2 m3
  have f0 := ff 0
  have f1 := ff 1
  have f2 := ff 2
  have f3 := ff 3
  have Bb := Lib.hid (B0.out.trans (b1.mono B0.out.size))
  have H1 := Lib.hid (H.out.below b1)
  clear cc ff b1
  rcases hz with ⟨rfl, rfl⟩ | ⟨k, p, rfl, hk, rfl⟩
  · go_wp2
    refine bodyPost_ret (v := .tuple #[.agg #[.int .i64 0, .int .i64 0, .string ⟨#[]⟩, .string ⟨#[]⟩], .bool false]) (by simp [results, Tryd.results103, go_sem, m0, m1, m2, m3]) rfl ⟨rfl, ?_⟩
    exact (((Bb.out.setCell (by simp) _).setCell (by simp) _).setCell (by simp) _).setCell (by simp) _
  · have hkn := (List.getElem?_eq_some_iff.1 hk).1
    rw [HN.out] at hkn
    obtain ⟨b, o, rfl, hl, hc⟩ := H1.out (by rw [HN.out]; omega)
    obtain ⟨e1, e2, e3, e4⟩ := hc k p hk
    have hkI : (k : Int) < (n : Int) := by omega
    have hk0 : ¬ (k : Int) < 0 := by omega
    clear hc hk
    go_wp2
    refine bodyPost_ret (v := .tuple #[.agg #[.int .i64 p.id, .int .i64 p.n, .string p.s, .string p.t], .bool true]) (by simp [results, Tryd.results103, go_sem, m0, m1, m2, m3]) rfl ⟨rfl, ?_⟩
    exact (((Bb.out.setCell (by simp) _).setCell (by simp) _).setCell (by simp) _).setCell (by simp) _
end Go.Proofs.YtlnanenfpapfkaaDoor

/- The walks of a property's width, of has, of both value functions. -/
namespace Go.Proofs.YtlnanenfpapfkaaDoor
set_option linter.unusedVariables false
open Go.RowKit Pl Go.Shelf

theorem s4b_blw {X Y : World} {B : Nat} {p : Pp} (h : S4b X B p) (hB : B < X.heap.size) (hb : Below X.heap.size X Y) : S4b Y B p :=
  ⟨(hb.cell (p := ⟨B, 0, none⟩) hB).trans h.1, (hb.cell (p := ⟨B, 1, none⟩) hB).trans h.2.1, (hb.cell (p := ⟨B, 2, none⟩) hB).trans h.2.2.1, (hb.cell (p := ⟨B, 3, none⟩) hB).trans h.2.2.2⟩
theorem width_any (k : Int) (w : World) : Calls Tryd.prog 104 #[.int .i64 k] w fun e w' => e = .returned (.int .i64 (wid k)) ∧ w = w' := by
  obtain ⟨d, hd⟩ : ∃ d, wid k = d := ⟨_, rfl⟩
  rw [hd]
  unfold wid at hd
  by_cases h1 : k = 1
  · subst h1
    obtain rfl : d = 1 := by rw [← hd]; rfl
    clear hd
    go_enter Tryd.func104, Tryd.ntmps104
    go_wp2
    go_ret
    exact ⟨rfl, rfl⟩
  · by_cases h2 : k = 2
    · subst h2
      obtain rfl : d = 2 := by rw [← hd]; rfl
      clear hd
      go_enter Tryd.func104, Tryd.ntmps104
      go_wp2
      go_ret
      exact ⟨rfl, rfl⟩
    · obtain rfl : d = 4 := by rw [← hd, if_neg h1, if_neg h2]
      clear hd
      have e1 : (k == 1) = false := by rw [beq_eq_false_iff_ne]; exact h1
      have e2 : (k == 2) = false := by rw [beq_eq_false_iff_ne]; exact h2
      clear h1 h2
      go_enter Tryd.func104, Tryd.ntmps104
      go_wp2
      go_ret
      exact ⟨rfl, rfl⟩
theorem refwidth_any (k : Int) (w : World) : Calls Tryd.prog 107 #[.int .i64 k] w fun e w' => e = .returned (.int .i64 (wid k)) ∧ w = w' := by
  obtain ⟨d, hd⟩ : ∃ d, wid k = d := ⟨_, rfl⟩
  rw [hd]
  unfold wid at hd
  by_cases h1 : k = 1
  · subst h1
    obtain rfl : d = 1 := by rw [← hd]; rfl
    clear hd
    go_enter Tryd.func107, Tryd.ntmps107
    go_wp2
    go_ret
    exact ⟨rfl, rfl⟩
  · by_cases h2 : k = 2
    · subst h2
      obtain rfl : d = 2 := by rw [← hd]; rfl
      clear hd
      go_enter Tryd.func107, Tryd.ntmps107
      go_wp2
      go_ret
      exact ⟨rfl, rfl⟩
    · obtain rfl : d = 4 := by rw [← hd, if_neg h1, if_neg h2]
      clear hd
      have e1 : (k == 1) = false := by rw [beq_eq_false_iff_ne]; exact h1
      have e2 : (k == 2) = false := by rw [beq_eq_false_iff_ne]; exact h2
      clear h1 h2
      go_enter Tryd.func107, Tryd.ntmps107
      go_wp2
      go_ret
      exact ⟨rfl, rfl⟩
theorem fnd_some (L : List Pp) (id : Int) : (fnd L id).isSome = L.any (fun p => p.id == id) := by
  unfold fnd
  rw [List.isSome_find?]
theorem has_any (A : Option Addr) (n cap : Nat) (L : List Pp) (id : Int) (w : World) (hn : L.length = n) (hm : n ≤ 1048576) (h : PRow w A L) :
    Calls Tryd.prog 88 #[.slice A n cap, .int .i64 id] w fun e w' => e = .returned (.bool (L.any (fun p => p.id == id) && (id != 38))) ∧ Below w.heap.size w w' := by
  have C := find_any A n cap L id w hn hm h
  rw [fnd_some] at C
  obtain ⟨ok, hok⟩ : ∃ ok, L.any (fun p => p.id == id) = ok := ⟨_, rfl⟩
  rw [hok] at C ⊢
  obtain ⟨⟨pi, pn, ps, pt⟩, hp⟩ : ∃ p, (fnd L id).getD zP = p := ⟨_, rfl⟩
  rw [hp] at C
  unfold ppV ppA at C
  have C := Lib.hid C
  clear hn hm h hok hp
  cases ok
  · go_enter Tryd.func88, Tryd.ntmps88
    go_wp2_with fail
    refine C.out.mono ?_
    rintro e w1 ⟨rfl, b1⟩
    go_wp2
    go_ret
    exact ⟨rfl, b1.alloc b1.size _⟩
  · go_enter Tryd.func88, Tryd.ntmps88
    go_wp2_with fail
    refine C.out.mono ?_
    rintro e w1 ⟨rfl, b1⟩
    go_wp2
    go_ret
    exact ⟨rfl, b1.alloc b1.size _⟩
set_option maxRecDepth 100000 in
set_option maxHeartbeats 2000000 in
theorem value_any (p : Pp) (w : World) (hz : p.fits) (hT : Tabs w) :
    Calls Tryd.prog 89 #[.agg #[.int .i64 p.id, .int .i64 p.n, .string p.s, .string p.t]] w fun e w' => ∃ v, e = .returned (.tuple #[.string v, .int .u8 (pvC p)]) ∧ (pvC p = 0 → v = pvS p) ∧ Below w.heap.size w w' := by
  obtain ⟨z1, z2, _⟩ := hz
  obtain ⟨k, hk⟩ : ∃ k, kindOf p.id = k := ⟨_, rfl⟩
  have CK : ∀ X : World, Calls Tryd.prog 87 #[.int .i64 p.id] X fun e w' => e = .returned (.int .i64 k) ∧ X = w' := fun X => by rw [← hk]; exact kind_any p.id X
  have b0 : Below w.heap.size w (w.alloc (.cells #[.int .i64 p.id, .int .i64 p.n, .string p.s, .string p.t] 99)) := (Below.refl _ _).alloc (Nat.le_refl _) _
  have hS : S4b (w.alloc (.cells #[.int .i64 p.id, .int .i64 p.n, .string p.s, .string p.t] 99)) w.heap.size p := ⟨World.cell?_alloc_at _ _ _ _ rfl, World.cell?_alloc_at _ _ _ _ rfl, World.cell?_alloc_at _ _ _ _ rfl, World.cell?_alloc_at _ _ _ _ rfl⟩
  have hl : w.heap.size < (w.alloc (.cells #[.int .i64 p.id, .int .i64 p.n, .string p.s, .string p.t] 99)).heap.size := by simp
  obtain ⟨W, hW⟩ : ∃ W, w.alloc (.cells #[.int .i64 p.id, .int .i64 p.n, .string p.s, .string p.t] 99) = W := ⟨_, rfl⟩
  rw [hW] at b0 hS hl
  have CK := Lib.hid CK
  have HW := Lib.hid hW
  have B0 := Lib.hid b0
  have HT := Lib.hid (hT.below b0)
  have HK := Lib.hid hk
  obtain ⟨s0, s1, s2, s3⟩ := hS
  obtain ⟨c, hc⟩ : ∃ c, pvC p = c := ⟨_, rfl⟩
  have hc2 := hc
  unfold pvC at hc2
  rw [hk] at hc2
  rw [hc]
  clear hc hk hW b0 hT
  by_cases h4 : k = 4
  · subst h4
    obtain rfl : putC p.n = c := hc2
    have HS : Hid ((⟨(enc p.n).toArray⟩ : ByteArray) = pvS p) := Lib.hid (by unfold pvS; rw [HK.out]; rfl)
    go_enter Tryd.func89, Tryd.ntmps89
    go_wp2_with fail
    rw [HW.out]
    refine (CK.out W).mono ?_
    rintro e w1 ⟨rfl, rfl⟩
    go_wp2_with fail
    refine (put_all p.n _).mono ?_
    rintro e w2 ⟨rfl, b2⟩
    go_wp2
    go_ret2
    exact ⟨_, rfl, fun _ => HS.out, B0.out.trans (b2.mono B0.out.size)⟩
  · by_cases h5 : k = 5
    · subst h5
      obtain rfl : dataC p.s = c := hc2
      have HS : Hid (dataS p.s = pvS p) := Lib.hid (by unfold pvS; rw [HK.out]; rfl)
      go_enter Tryd.func89, Tryd.ntmps89
      go_wp2_with fail
      rw [HW.out]
      refine (CK.out W).mono ?_
      rintro e w1 ⟨rfl, rfl⟩
      go_wp2_with fail
      refine (data_all p.s _ z1).mono ?_
      rintro e w2 ⟨rfl, b2⟩
      go_wp2
      go_ret2
      exact ⟨_, rfl, fun _ => HS.out, B0.out.trans (b2.mono B0.out.size)⟩
    · by_cases h6 : k = 6
      · subst h6
        obtain rfl : tputC p.s = c := hc2
        have HS : Hid (tputS p.s = pvS p) := Lib.hid (by unfold pvS; rw [HK.out]; rfl)
        go_enter Tryd.func89, Tryd.ntmps89
        go_wp2_with fail
        rw [HW.out]
        refine (CK.out W).mono ?_
        rintro e w1 ⟨rfl, rfl⟩
        go_wp2_with fail
        refine (tput_any p.s _ z1 HT.out).mono ?_
        rintro e w2 ⟨rfl, b2⟩
        go_wp2
        go_ret2
        exact ⟨_, rfl, fun _ => HS.out, B0.out.trans (b2.mono B0.out.size)⟩
      · by_cases h7 : k = 7
        · subst h7
          have HS : Hid (tputS p.s ++ tputS p.t = pvS p) := Lib.hid (by unfold pvS; rw [HK.out]; rfl)
          have q1 := tputS_small p.s
          have q2 := tputS_small p.t
          have hc3 : (if tputC p.s = 0 then tputC p.t else tputC p.s) = c := hc2
          have C1 := tput_any p.s W z1 HT.out
          have C2 : ∀ X, Tabs X → Calls Tryd.prog 84 #[.string p.t] X fun e w' => e = .returned (.tuple #[.string (tputS p.t), .int .u8 (tputC p.t)]) ∧ Below X.heap.size X w' := fun X h => tput_any p.t X z2 h
          obtain ⟨u1, hu1⟩ : ∃ u, tputS p.s = u := ⟨_, rfl⟩
          obtain ⟨u2, hu2⟩ : ∃ u, tputS p.t = u := ⟨_, rfl⟩
          obtain ⟨d1, hd1⟩ : ∃ u, tputC p.s = u := ⟨_, rfl⟩
          obtain ⟨d2, hd2⟩ : ∃ u, tputC p.t = u := ⟨_, rfl⟩
          rw [hu1] at HS q1 C1
          rw [hu2] at HS q2 C2
          rw [hd1] at C1 hc3
          rw [hd2] at C2 hc3
          have C1 := Lib.hid C1
          have C2 := Lib.hid C2
          have s3' : W.cell? ⟨w.heap.size, 3, none⟩ = some (.string p.t) := s3
          clear hu1 hu2 hd1 hd2 hc2
          by_cases h0 : d1 = 0
          · subst h0
            rw [if_pos rfl] at hc3
            subst hc3
            go_enter Tryd.func89, Tryd.ntmps89
            go_wp2_with fail
            rw [HW.out]
            refine (CK.out W).mono ?_
            rintro e w1 ⟨rfl, rfl⟩
            go_wp2_with fail
            refine C1.out.mono ?_
            rintro e w2 ⟨rfl, b2⟩
            have t3 := (b2.cell (p := ⟨w.heap.size, 3, none⟩) hl).trans s3
            have HT2 := Lib.hid (HT.out.below b2)
            go_wp2_with fail
            refine (C2.out _ HT2.out).mono ?_
            rintro e w3 ⟨rfl, b3⟩
            go_wp2
            go_ret2
            exact ⟨_, rfl, fun _ => HS.out, B0.out.trans ((b2.trans (b3.mono b2.size)).mono B0.out.size)⟩
          · rw [if_neg h0] at hc3
            subst hc3
            have e0 : (d1 == 0) = false := by rw [beq_eq_false_iff_ne]; exact h0
            have e1 : (d1 != 0) = true := by rw [bne, e0]; rfl
            go_enter Tryd.func89, Tryd.ntmps89
            go_wp2_with fail
            rw [HW.out]
            refine (CK.out W).mono ?_
            rintro e w1 ⟨rfl, rfl⟩
            go_wp2_with fail
            refine C1.out.mono ?_
            rintro e w2 ⟨rfl, b2⟩
            go_wp2
            go_ret2
            exact ⟨_, rfl, fun h => absurd h h0, B0.out.trans (b2.mono B0.out.size)⟩
        · have HS : Hid ((⟨(fixS (wid k) p.n).toArray⟩ : ByteArray) = pvS p) := Lib.hid (by unfold pvS; rw [HK.out, if_neg h4, if_neg h5, if_neg h6, if_neg h7])
          obtain rfl : fixC (wid k) p.n = c := by rw [← hc2, if_neg h4, if_neg h5, if_neg h6, if_neg h7]
          have e4 : (k == 4) = false := by rw [beq_eq_false_iff_ne]; exact h4
          have e5 : (k == 5) = false := by rw [beq_eq_false_iff_ne]; exact h5
          have e6 : (k == 6) = false := by rw [beq_eq_false_iff_ne]; exact h6
          have e7 : (k == 7) = false := by rw [beq_eq_false_iff_ne]; exact h7
          clear h4 h5 h6 h7
          go_enter Tryd.func89, Tryd.ntmps89
          go_wp2_with fail
          rw [HW.out]
          refine (CK.out W).mono ?_
          rintro e w1 ⟨rfl, rfl⟩
          go_wp2_with fail
          have s1d : W.drew.cell? ⟨w.heap.size, 1, none⟩ = some (.int .i64 p.n) := s1
          have bd : Below W.heap.size W W.drew := (Below.refl _ _).drew
          have hld : w.heap.size < W.drew.heap.size := hl
          go_region_held3 (fun X => X.cell? ⟨w.heap.size, 1, none⟩ = some (.int .i64 p.n)) (first | (with_reducible assumption) | exact s1 | exact s1d | exact y3) (first | (go_at_call 104; refine (width_any k _).mono ?_; rintro e w2 ⟨rfl, rfl⟩) | (go_at_call 20; refine (fixed_all (wid k) p.n _).mono ?_; rintro e w3 ⟨rfl, b3⟩; have y3 : w3.cell? ⟨w.heap.size, 1, none⟩ = some (.int .i64 p.n) := (b3.cell (p := ⟨w.heap.size, 1, none⟩) hld).trans s1d) | (fail))
          all_goals go_wp2
          all_goals
            go_ret2
            exact ⟨_, rfl, fun _ => HS.out, B0.out.trans ((bd.trans (b3.mono bd.size)).mono B0.out.size)⟩
end Go.Proofs.YtlnanenfpapfkaaDoor

/- The walk of prop.Put. -/
namespace Go.Proofs.YtlnanenfpapfkaaDoor
set_option linter.unusedVariables false
open Go.RowKit Pl Go.Shelf

theorem own_below {w w' : World} {base n size : Nat} {e : TypeId} {v : Value} {xs : List Value} (h : w.ownsRow base e size v n xs) (hb : Below w.heap.size w w') : w'.ownsRow base e size v n xs := by
  refine ⟨h.1, ?_⟩
  rcases h.2 with h0 | ⟨g, cap, cur, rfl, hg, hh, hrest⟩
  · exact .inl h0
  · exact .inr ⟨g, cap, cur, rfl, hg, (hb.block g (h.lt g rfl).2).trans hh, hrest⟩
theorem bat_below {T e : TypeId} {B b : Nat} {p : Value} {bs : List Value} {w w' : World} (h : Lib.BuilderAt T e B b p bs w) (hb : Below w.heap.size w w') : Lib.BuilderAt T e B b p bs w' := by
  have hlt := h.lt
  obtain ⟨h1, v, h2, h3, h4⟩ := h
  exact ⟨h1, v, (hb.block b hlt).trans h2, own_below h3 hb, h4⟩
theorem isb_below {T e : TypeId} {B b : Nat} {bs : List Value} {w w' : World} (h : Lib.IsBuilder T e B b bs w) (hb : Below w.heap.size w w') : Lib.IsBuilder T e B b bs w' := by
  rcases h with h | h
  · exact .inl (bat_below h hb)
  · exact .inr (bat_below h hb)
theorem isb_add {T e : TypeId} {B b : Nat} {s t : ByteArray} {w : World} (h : Lib.BuilderAt T e B b (.pointer (some ⟨b, 0, none⟩)) (Lib.byteCells s.data.toList ++ Lib.strCells t) w) : Lib.IsBuilder T e B b (Lib.byteCells (s ++ t).data.toList) w := by
  refine .inr ?_
  have e2 : Lib.byteCells (s ++ t).data.toList = Lib.byteCells s.data.toList ++ Lib.strCells t := by
    rw [ByteArray.data_append, Array.toList_append, Lib.byteCells_append]; rfl
  rw [e2]; exact h
set_option maxHeartbeats 4000000 in
theorem pput_any (A : Option Addr) (n cap : Nat) (L : List Pp) (w : World) (hn : L.length = n) (hc : n ≤ cap) (hm : n ≤ 1048576) (h : PRow w A L) (hz : ∀ p ∈ L, p.fits) (hT : Tabs w) :
    Calls Tryd.prog 66 #[.slice A n cap] w fun e w' => e = .returned (.tuple #[.string (ppS L), .int .u8 (ppC L)]) ∧ Below w.heap.size w w' := by
  by_cases h64 : 64 < n
  · obtain ⟨e1, e2⟩ := pp_long (L := L) (by omega)
    rw [e1, e2]
    have hI : (64 : Int) < (n : Int) := by omega
    clear e1 e2 h hz hT hn
    go_enter Tryd.func66, Tryd.ntmps66
    go_wp2
    go_ret2
    exact ⟨rfl, Below.refl _ _⟩
  · have H := Lib.hid h
    have HN := Lib.hid hn
    have HZ := Lib.hid hz
    have HT := Lib.hid hT
    have hI : (n : Int) ≤ 64 := by omega
    have h0 : Lib.IsBuilder 69 5 w.heap.size w.heap.size (Lib.byteCells (⟨#[]⟩ : ByteArray).data.toList) (w.alloc (.cells #[.pointer none, .slice none 0 0] 69)) := Lib.fresh_isBuilder _ _ w
    have b0 : Below w.heap.size w (w.alloc (.cells #[.pointer none, .slice none 0 0] 69)) := (Below.refl _ _).alloc (Nat.le_refl _) _
    obtain ⟨W0, hW0⟩ : ∃ W0, w.alloc (.cells #[.pointer none, .slice none 0 0] 69) = W0 := ⟨_, rfl⟩
    rw [hW0] at h0 b0
    have H0 := Lib.hid h0
    have B0 := Lib.hid b0
    have HW0 := Lib.hid hW0
    have hcI : (n : Int) ≤ (cap : Int) := by omega
    clear h hn hz hT h0 b0 hW0
    go_enter Tryd.func66, Tryd.ntmps66
    go_wp2_with fail
    rw [HW0.out]
    go_loopw [18] (fun i wr => ∃ k : Nat, i = .int .i64 k ∧ k ≤ n ∧ Hid (codK L k = 0) ∧ Hid (Lib.IsBuilder 69 5 w.heap.size w.heap.size (Lib.byteCells (putK L k).data.toList) wr) ∧ Hid (Below w.heap.size w wr)) (fun i _ => n - (intOf i).toNat)
    case atStart => exact ⟨0, rfl, by omega, Lib.hid rfl, H0, B0⟩
    case round =>
      obtain ⟨k, rfl, hk, hcd, hB, hb⟩ := hrel
      by_cases hlt : k < n
      · obtain ⟨b, o, rfl, hl, hcl⟩ := (H.out.below hb.out) (by rw [HN.out]; omega)
        obtain ⟨p, hp⟩ : ∃ p, L[k]? = some p := ⟨_, List.getElem?_eq_getElem (by rw [HN.out]; omega)⟩
        obtain ⟨c0, c1, c2, c3⟩ := hcl k p hp
        have hfit := HZ.out p (List.mem_of_getElem? hp)
        have hkI : (k : Int) < (n : Int) := by omega
        have hkc : (k : Int) ≤ (cap : Int) := by omega
        have hHas : ∀ X, Below wr.heap.size wr X → Calls Tryd.prog 88 #[.slice (some ⟨b, o, none⟩) k cap, .int .i64 p.id] X fun e w' => e = .returned (.bool (dup L k p.id)) ∧ Below X.heap.size X w' := fun X hx => has_any _ k cap (L.take k) p.id X (by rw [List.length_take, HN.out]; omega) (by omega) ((H.out.below (hb.out.trans (hx.mono hb.out.size))).take)
        have CH := Lib.hid hHas
        have hb2 : Below w.heap.size w (wr.alloc (.cells (ppA p) 99)) := hb.out.alloc hb.out.size _
        have hS : S4b (wr.alloc (.cells (ppA p) 99)) wr.heap.size p := ⟨World.cell?_alloc_at _ _ _ _ rfl, World.cell?_alloc_at _ _ _ _ rfl, World.cell?_alloc_at _ _ _ _ rfl, World.cell?_alloc_at _ _ _ _ rfl⟩
        have hW1 : Below wr.heap.size wr (wr.alloc (.cells (ppA p) 99)) := (Below.refl _ _).alloc (Nat.le_refl _) _
        have hlw : wr.heap.size < (wr.alloc (.cells (ppA p) 99)).heap.size := by simp
        have hBW := isb_below hB.out hW1
        have hY0 : wr.alloc (.cells (ppA p) 99) = wr.alloc (.cells #[.int .i64 p.id, .int .i64 p.n, .string p.s, .string p.t] 99) := rfl
        obtain ⟨Y, hY⟩ : ∃ Y, wr.alloc (.cells (ppA p) 99) = Y := ⟨_, rfl⟩
        rw [hY] at hb2 hS hW1 hlw hBW hY0
        have HY := Lib.hid hY0.symm
        have HP := Lib.hid hp
        have HBW := Lib.hid hBW
        have HB2 := Lib.hid hb2
        have HW1 := Lib.hid hW1
        have HS4 := Lib.hid hS
        obtain ⟨s0, s1, s2, s3⟩ := hS
        have HTY := Lib.hid (HT.out.below hb2)
        clear hcl hp hY hY0 hBW hb2 hW1 hHas
        obtain ⟨kd, hkd⟩ : ∃ kd, kindOf p.id = kd := ⟨_, rfl⟩
        have CK : ∀ X : World, Calls Tryd.prog 87 #[.int .i64 p.id] X fun e w' => e = .returned (.int .i64 kd) ∧ X = w' := fun X => by rw [← hkd]; exact kind_any p.id X
        have CK := Lib.hid CK
        have HKD := Lib.hid hkd
        clear hkd
        by_cases h0 : kd = 0
        · subst h0
          have HR : Hid (codK L n = 129) := Lib.hid (cod_last (n := n) ((cod_succ HP.out hcd.out).trans (by unfold stp; rw [if_pos HKD.out])) (by decide) hlt)
          go_wp2_with fail
          rw [HY.out]
          refine (CK.out _).mono ?_
          rintro e w1 ⟨rfl, rfl⟩
          go_wp2
          go_ret2
          obtain ⟨q1, q2⟩ := pp_bad (L := L) (c := 129) (by rw [HN.out]; exact h64) (by rw [HN.out]; exact HR.out) (by decide)
          exact ⟨by rw [q1, q2]; rfl, HB2.out⟩
        · have e0 : (kd == 0) = false := by rw [beq_eq_false_iff_ne]; exact h0
          obtain ⟨dp, hdp⟩ : ∃ dp, dup L k p.id = dp := ⟨_, rfl⟩
          rw [hdp] at CH
          have HDP := Lib.hid hdp
          clear hdp
          cases dp
          · go_wp2_with fail
            rw [HY.out]
            refine (CK.out _).mono ?_
            rintro e w1 ⟨rfl, rfl⟩
            go_wp2_with fail
            have CHd := Lib.hid (CH.out Y.drew HW1.out.drew)
            have s0d : Y.drew.cell? ⟨wr.heap.size, 0, none⟩ = some (.int .i64 p.id) := s0
            go_region_held3 (fun X => X.cell? ⟨wr.heap.size, 0, none⟩ = some (.int .i64 p.id)) (first | (with_reducible assumption) | exact s0 | exact s0d | exact y3) (first | (go_at_call 88; refine CHd.out.mono ?_; rintro e w2 ⟨rfl, b2⟩; have y3 : w2.cell? ⟨wr.heap.size, 0, none⟩ = some (.int .i64 p.id) := (b2.cell (p := ⟨wr.heap.size, 0, none⟩) hlw).trans s0d; have y4 : S4b w2 wr.heap.size p := s4b_blw (X := Y.drew) HS4.out hlw b2) | (fail))
            all_goals have bY2 : Below Y.heap.size Y w2 := (Below.refl _ _).drew.trans b2
            all_goals
              obtain ⟨t0, t1, t2, t3⟩ := y4
              have HT2 := Lib.hid (HTY.out.below bY2)
              have HB4 := Lib.hid (isb_below HBW.out bY2)
              have hlw2 : wr.heap.size < w2.heap.size := Nat.lt_of_lt_of_le hlw bY2.size
            obtain ⟨cd, hcd2⟩ : ∃ cd, pvC p = cd := ⟨_, rfl⟩
            have CV := value_any p w2 hfit HT2.out
            rw [hcd2] at CV
            have HCD := Lib.hid hcd2
            have HSZ := Lib.hid (pvS_small p)
            have CV := Lib.hid CV
            clear hcd2 hfit
            by_cases hc0 : cd = 0
            · subst hc0
              have hk1 := Lib.hid (put_succ (L := L) (k := k) HP.out)
              have hcd1 : Hid (codK L (k + 1) = 0) := Lib.hid ((cod_succ HP.out hcd.out).trans (by unfold stp; rw [if_neg (by rw [HKD.out]; exact h0), if_neg (by rw [HDP.out]; decide)]; exact HCD.out))
              have hB2 := Lib.hid (HB2.out.trans (bY2.mono HB2.out.size))
              go_wp2_with fail
              refine CV.out.mono ?_
              rintro e w3 ⟨v, rfl, hv, b3⟩
              obtain rfl : v = pvS p := hv trivial
              have hB3 := Lib.hid (hB2.out.trans (b3.mono hB2.out.size))
              have HB5 := Lib.hid (isb_below HB4.out b3)
              have u0 := (b3.cell (p := ⟨wr.heap.size, 0, none⟩) hlw2).trans t0
              have hlw3 : wr.heap.size < w3.heap.size := Nat.lt_of_lt_of_le hlw2 b3.size
              clear b3 hv
              go_wp2_with fail
              refine (put_all p.id _).mono ?_
              rintro e w4 ⟨rfl, b4⟩
              have hB6 := Lib.hid (hB3.out.trans (b4.mono hB3.out.size))
              have HB7 := Lib.hid (isb_below HB5.out b4)
              have hs1 := HSZ.out
              have hs2 := enc_small p.id
              have hs3 := put_small L k
              clear b4
              go_wp2_with fail
              refine (ws_any _ _ _ _ _ HB7.out (by rw [Lib.byteCells_length, ByteArray.size_append]; show (putK L k).data.toList.length + ((enc p.id).toArray.size + _) ≤ _; simp only [List.size_toArray]; have e : (putK L k).data.toList.length = (putK L k).size := rfl; rw [e]; omega) hB6.out.size).mono ?_
              rintro e w5 ⟨rfl, hb5, b5⟩
              have hB8 := Lib.hid (hB6.out.trans b5)
              have HB9 := Lib.hid (isb_add hb5)
              clear hb5 b5
              go_wp2
              go_roundw
              case rel => exact ⟨k + 1, by go_num, by omega, hcd1, by rw [hk1.out]; exact HB9, hB8⟩
              case measure => simp [intOf]; omega
            · have e1 : (cd == 0) = false := by rw [beq_eq_false_iff_ne]; exact hc0
              have e2 : (cd != 0) = true := by rw [bne, e1]; rfl
              have HR : Hid (codK L n = cd) := Lib.hid (cod_last (n := n) ((cod_succ HP.out hcd.out).trans (by unfold stp; rw [if_neg (by rw [HKD.out]; exact h0), if_neg (by rw [HDP.out]; decide), HCD.out])) hc0 hlt)
              go_wp2_with fail
              refine CV.out.mono ?_
              rintro e w3 ⟨v, rfl, hv, b3⟩
              go_wp2
              go_ret2
              obtain ⟨q1, q2⟩ := pp_bad (L := L) (c := cd) (by rw [HN.out]; exact h64) (by rw [HN.out]; exact HR.out) hc0
              exact ⟨by rw [q1, q2]; rfl, HB2.out.trans ((bY2.trans (b3.mono bY2.size)).mono HB2.out.size)⟩
          · have HR : Hid (codK L n = 130) := Lib.hid (cod_last (n := n) ((cod_succ HP.out hcd.out).trans (by unfold stp; rw [if_neg (by rw [HKD.out]; exact h0), if_pos HDP.out])) (by decide) hlt)
            go_wp2_with fail
            rw [HY.out]
            refine (CK.out _).mono ?_
            rintro e w1 ⟨rfl, rfl⟩
            go_wp2_with fail
            have CHd := Lib.hid (CH.out Y.drew HW1.out.drew)
            have s0d : Y.drew.cell? ⟨wr.heap.size, 0, none⟩ = some (.int .i64 p.id) := s0
            go_region_held3 (fun X => X.cell? ⟨wr.heap.size, 0, none⟩ = some (.int .i64 p.id)) (first | (with_reducible assumption) | exact s0 | exact s0d | exact y3) (first | (go_at_call 88; refine CHd.out.mono ?_; rintro e w2 ⟨rfl, b2⟩; have y3 : w2.cell? ⟨wr.heap.size, 0, none⟩ = some (.int .i64 p.id) := (b2.cell (p := ⟨wr.heap.size, 0, none⟩) hlw).trans s0d; have y4 : S4b w2 wr.heap.size p := s4b_blw (X := Y.drew) HS4.out hlw b2) | (fail))
            all_goals have bY2 : Below Y.heap.size Y w2 := (Below.refl _ _).drew.trans b2
            all_goals go_wp2
            all_goals
              go_ret2
              obtain ⟨q1, q2⟩ := pp_bad (L := L) (c := 130) (by rw [HN.out]; exact h64) (by rw [HN.out]; exact HR.out) (by decide)
              exact ⟨by rw [q1, q2]; rfl, HB2.out.trans (bY2.mono HB2.out.size)⟩
      · obtain rfl : k = n := by omega
        obtain ⟨q1, q2⟩ := pp_ok (L := L) (by rw [HN.out]; exact h64) (by rw [HN.out]; exact hcd.out)
        rw [HN.out] at q2
        have hs3 := put_small L k
        obtain ⟨m, hm'⟩ : ∃ m, (putK L k).size = m := ⟨_, rfl⟩
        rw [hm'] at q2 hs3
        have CL := Tryd.Builder_Len w.heap.size w.heap.size _ wr hB.out
        rw [Lib.byteCells_length, show (putK L k).data.toList.length = m from hm'] at CL
        have CP : ∀ X : World, Calls Tryd.prog 21 #[.int .i64 (m : Int)] X fun e w' => e = .returned (.tuple #[.string ⟨(enc m).toArray⟩, .int .u8 0]) ∧ Below X.heap.size X w' := fun X => by
          have h := put_all (m : Int) X
          rwa [show putC (m : Int) = 0 from by unfold putC; rw [if_neg (by omega)]] at h
        have CP := Lib.hid CP
        have CL := Lib.hid CL
        have Q1 := Lib.hid q1
        have Q2 := Lib.hid q2
        have HM := Lib.hid hm'
        clear q1 q2 hm'
        go_wp2_with fail
        refine CL.out.mono ?_
        rintro e w1 ⟨rfl, rfl⟩
        go_wp2_with fail
        refine (CP.out _).mono ?_
        rintro e w2 ⟨rfl, b2⟩
        have HB2 := Lib.hid (isb_below hB.out b2)
        have hb2 := Lib.hid (hb.out.trans (b2.mono hb.out.size))
        have hs4 := enc_small m
        have CS := Tryd.Builder_String_any _ _ _ _ HB2.out hb2.out.size
        rw [show (⟨(putK L k).data.toList.toArray⟩ : ByteArray) = putK L k from by apply ByteArray.ext; simp] at CS
        have hm2 : (putK L k).size = m := HM.out
        obtain ⟨M, hM⟩ : ∃ M, putK L k = M := ⟨_, rfl⟩
        rw [hM] at CS hm2 Q2
        have CS := Lib.hid CS
        have hm3 : M.size ≤ 8388992 := by omega
        clear b2 hM hm2
        go_wp2_with fail
        refine CS.out.mono ?_
        rintro e w3 ⟨rfl, b3⟩
        go_wp2
        go_ret2
        exact ⟨by rw [Q1.out, Q2.out]; rfl, hb2.out.trans b3⟩
end Go.Proofs.YtlnanenfpapfkaaDoor
