/- Parts of the proof, joined: Wr9, Wr10, Gw11, Gw12, Gw13. -/
import Derived.Test.YtedapgeabpadaaaDoorH6P14
import Derived.Test.YtedapgeabpadaaaDoorH6P2
import Derived.Test.YtedapgeabpadaaaDoorH6P11
import Derived.Laws.CopyOwn
import Derived.Great.BuildSlice
import Derived.Defers
import Derived.Recover
import Derived.Laws.Pointers
/- A writer's bytes as a string; a kind's flags. -/
set_option linter.unusedVariables false
namespace Go.Proofs.YtedapgeabpadaaaDoor
open Go.Shelf Go.RowKit Pl

theorem unsafeString_none' (W : World) (q : Option Addr) : (Builtin.unsafeString_ #[128, 3] 9 #[.pointer q, .int .i64 0]).run Tryd.prog W = .ok (.string .empty) W :=
  Any.unsafeString_none Tryd.lays169 Tryd.Builder_Extra_169 W q
theorem byte_cells : Tryd.prog.cellsOf 5 = 1 := by kernel_rfl
set_option maxHeartbeats 2000000 in
set_option maxRecDepth 100000 in
theorem wstr_nil (B b : Nat) (p : Value) (c : Int) (w : World) (hb : Blk w b #[p, .slice none 0 0, .int .u8 c] 94) :
    Calls Tryd.prog 30 #[.pointer (some ⟨b, 0, none⟩)] w fun e w' => e = .returned (.string ⟨#[]⟩) ∧ Below B w w' := by
  have hUS := unsafeString_none'
  have c1 : w.drew.cell? ⟨b, 1, none⟩ = some (.slice none 0 0) := hb.cell 1
  have hSD : (Builtin.unsafeSliceData_ #[59] 128 #[.slice none 0 0]).run Tryd.prog w.drew = .ok (.pointer none) w.drew := rfl
  clear hb
  go_enter Tryd.func30, Tryd.ntmps30
  go_wp2
  go_region
  all_goals (go_wp2; go_ret; exact ⟨rfl, Below.drew (Below.refl B w)⟩)
set_option maxHeartbeats 2000000 in
set_option maxRecDepth 100000 in
theorem wstr_noroom (B b g : Nat) (p : Value) (c : Int) (cur : Array Value) (w : World) (hBw : B ≤ w.heap.size) (hb : Blk w b #[p, .slice (some ⟨g, 0, none⟩) 0 0, .int .u8 c] 94) (hg : w.heap[g]? = some (.cells cur 5 (0, 0))) :
    Calls Tryd.prog 30 #[.pointer (some ⟨b, 0, none⟩)] w fun e w' => e = .returned (.string ⟨#[]⟩) ∧ Below B w w' := by
  have hUS := unsafeString_none'
  have hlt := hb.lt
  have c1 : w.drew.cell? ⟨b, 1, none⟩ = some (.slice (some ⟨g, 0, none⟩) 0 0) := hb.cell 1
  have hSD : (Builtin.unsafeSliceData_ #[59] 128 #[.slice (some ⟨g, 0, none⟩) 0 0]).run Tryd.prog w.drew = .ok (.pointer (some ⟨w.drew.heap.size, 0, none⟩)) (w.drew.alloc (.view ⟨g, 0, none⟩ 5)) :=
    Lib.run_unsafeSliceData_zero w.drew _ _ 5 Tryd.underlying128 ⟨g, 0, none⟩ 0 (5, cur.size) (by have hg' : w.drew.heap[g]? = some (.cells cur 5 (0, 0)) := hg; simp [World.shape?, hg'])
  have c2 : (w.drew.alloc (.view ⟨g, 0, none⟩ 5)).cell? ⟨b, 1, none⟩ = some (.slice (some ⟨g, 0, none⟩) 0 0) := (hb.drew.alloc (.view ⟨g, 0, none⟩ 5)).cell 1
  have c3 : (w.alloc (.view ⟨g, 0, none⟩ 5)).drew.cell? ⟨b, 1, none⟩ = some (.slice (some ⟨g, 0, none⟩) 0 0) := c2
  have c0 : w.cell? ⟨b, 1, none⟩ = some (.slice (some ⟨g, 0, none⟩) 0 0) := c1
  clear hb
  go_enter Tryd.func30, Tryd.ntmps30
  go_wp2
  go_region
  all_goals (go_wp2; go_ret; exact ⟨rfl, (Below.drew (Below.refl B w)).alloc hBw _⟩)
set_option maxHeartbeats 2000000 in
set_option maxRecDepth 100000 in
theorem wstr_room (B b g cap : Nat) (p : Value) (c : Int) (w : World) (hc0 : cap ≠ 0) (hb : Blk w b #[p, .slice (some ⟨g, 0, none⟩) 0 cap, .int .u8 c] 94) :
    Calls Tryd.prog 30 #[.pointer (some ⟨b, 0, none⟩)] w fun e w' => e = .returned (.string ⟨#[]⟩) ∧ Below B w w' := by
  have hUS := unsafeString_none'
  have c1 : w.drew.cell? ⟨b, 1, none⟩ = some (.slice (some ⟨g, 0, none⟩) 0 cap) := hb.cell 1
  have hSD : (Builtin.unsafeSliceData_ #[59] 128 #[.slice (some ⟨g, 0, none⟩) 0 cap]).run Tryd.prog w.drew = .ok (.pointer (some ⟨g, 0, none⟩)) w.drew :=
    Lib.run_unsafeSliceData_row _ _ _ _ _ _ hc0
  clear hc0 hb
  go_enter Tryd.func30, Tryd.ntmps30
  go_wp2
  go_region
  all_goals (go_wp2; go_ret; exact ⟨rfl, Below.drew (Below.refl B w)⟩)
set_option maxHeartbeats 2000000 in
set_option maxRecDepth 100000 in
theorem wstr_full (B b : Nat) (s : ByteArray) (c : Int) (w : World) (h : WrAt B b s c w) (h0 : s.data.toList ≠ []) :
    Calls Tryd.prog 30 #[.pointer (some ⟨b, 0, none⟩)] w fun e w' => e = .returned (.string ⟨s.data.toList.toArray⟩) ∧ Below B w w' := by
  obtain ⟨hB, p, v, hp, hb, hown⟩ := h
  obtain ⟨l, hl⟩ : ∃ l, s.data.toList = l := ⟨_, rfl⟩
  have hsz : s.size = l.length := by rw [← hl]; rfl
  rw [hl] at hown h0 ⊢
  rw [hsz] at hown
  have hl0 : l.length ≠ 0 := by simpa using h0
  obtain ⟨g, cap, cur, rfl, hbg, hg, hnc, hcm, hcs, htake⟩ : ∃ g cap cur, v = .slice (some ⟨g, 0, none⟩) l.length cap ∧ B ≤ g ∧ w.heap[g]? = some (.cells cur 5 (0, 0)) ∧ l.length ≤ cap ∧ cap ≤ maxLen ∧ cur.size = cap * 1 ∧ cur.toList.take (l.length * 1) = Lib.byteCells l := by
    rcases hown.2 with ⟨_, hz⟩ | ⟨g, cap, cur, hv, r⟩
    · exact absurd hz hl0
    · exact ⟨g, cap, cur, hv, r⟩
  have c1 : w.drew.cell? ⟨b, 1, none⟩ = some (.slice (some ⟨g, 0, none⟩) l.length cap) := hb.cell 1
  have hSD : (Builtin.unsafeSliceData_ #[59] 128 #[.slice (some ⟨g, 0, none⟩) l.length cap]).run Tryd.prog w.drew = .ok (.pointer (some ⟨g, 0, none⟩)) w.drew :=
    Lib.run_unsafeSliceData_row _ _ _ _ _ _ (by omega)
  have hUS : (Builtin.unsafeString_ #[128, 3] 9 #[.pointer (some ⟨g, 0, none⟩), .int .i64 l.length]).run Tryd.prog w.drew = .ok (.string ⟨l.toArray⟩) (w.drew.freeze ⟨g, 0, none⟩ l.length) := by
    refine Lib.run_unsafeString_row w.drew 128 3 9 5 Tryd.underlying128 byte_cells g cur.size (by have hg' : w.drew.heap[g]? = some (.cells cur 5 (0, 0)) := hg; simp [World.shape?, hg']) l h0 (by omega) (by unfold maxLen at hcm; omega) ?_
    intro j x hx
    have := hown.cells (g := g) rfl j (.int .u8 x.toNat) (by simp [Lib.byteCells, hx])
    exact this
  clear hb hown hp htake hsz hl
  go_enter Tryd.func30, Tryd.ntmps30
  go_wp2
  go_region
  all_goals (go_wp2; go_ret; exact ⟨rfl, Lib.below_freeze (Below.drew (Below.refl B w)) (p := ⟨g, 0, none⟩) hbg _⟩)
theorem wstr_any (B b : Nat) (s : ByteArray) (c : Int) (w : World) (h : WrAt B b s c w) (hBw : B ≤ w.heap.size) :
    Calls Tryd.prog 30 #[.pointer (some ⟨b, 0, none⟩)] w fun e w' => e = .returned (.string s) ∧ Below B w w' := by
  by_cases h0 : s.data.toList = []
  · obtain rfl : s = ⟨#[]⟩ := by apply ByteArray.ext; apply Array.toList_inj.1; exact h0
    obtain ⟨hB, p, v, hp, hb, hown⟩ := h
    rcases hown.2 with ⟨rfl, _⟩ | ⟨g, cap, cur, rfl, hbg, hg, _, _, _, _⟩
    · exact wstr_nil B b p c w hb
    · by_cases hc0 : cap = 0
      · subst hc0
        exact wstr_noroom B b g p c cur w hBw hb hg
      · exact wstr_room B b g cap p c w hc0 hb
  · have := wstr_full B b s c w h h0
    rwa [show (⟨s.data.toList.toArray⟩ : ByteArray) = s from by apply ByteArray.ext; simp] at this
theorem kflags_any (k : Int) (w : World) : Calls Tryd.prog 22 #[.int .i64 k] w fun e w' => e = .returned (.int .i64 (kFlags k)) ∧ w = w' := by
  obtain ⟨f, hf⟩ : ∃ f, kFlags k = f := ⟨_, rfl⟩
  rw [hf]
  unfold kFlags at hf
  by_cases h6 : k = 6
  · rw [if_pos (.inl h6)] at hf
    subst hf
    have t1 : (k == 6) = true := by rw [h6]; rfl
    clear h6
    go_enter Tryd.func22, Tryd.ntmps22
    go_wp2
    go_ret
    exact ⟨rfl, rfl⟩
  · have t1 : (k == 6) = false := beq_eq_false_iff_ne.2 h6
    by_cases h8 : k = 8
    · rw [if_pos (.inr (.inl h8))] at hf
      subst hf
      have t2 : (k == 8) = true := by rw [h8]; rfl
      clear h6 h8
      go_enter Tryd.func22, Tryd.ntmps22
      go_wp2
      go_ret
      exact ⟨rfl, rfl⟩
    · have t2 : (k == 8) = false := beq_eq_false_iff_ne.2 h8
      by_cases h10 : k = 10
      · rw [if_pos (.inr (.inr h10))] at hf
        subst hf
        have t3 : (k == 10) = true := by rw [h10]; rfl
        clear h6 h8 h10
        go_enter Tryd.func22, Tryd.ntmps22
        go_wp2
        go_ret
        exact ⟨rfl, rfl⟩
      · rw [if_neg (by omega)] at hf
        subst hf
        have t3 : (k == 10) = false := beq_eq_false_iff_ne.2 h10
        clear h6 h8 h10
        go_enter Tryd.func22, Tryd.ntmps22
        go_wp2
        go_ret
        exact ⟨rfl, rfl⟩
end Go.Proofs.YtedapgeabpadaaaDoor

/- The walk of packet.Put. -/
set_option linter.unusedVariables false
namespace Go.Proofs.YtedapgeabpadaaaDoor
open Go.Shelf Go.RowKit Pl

def PkPut (p : Pk) (w w' : World) (e : Ending) : Prop := e = .returned (.tuple #[.string (pkS p), .int .u8 (pkC p)]) ∧ Below w.heap.size w w'
theorem pk_out {p : Pk} (h : p.kind < 1 ∨ 15 < p.kind) : pkC p = 129 ∧ pkS p = ⟨#[]⟩ := by
  have e : pkC p = 129 := by unfold pkC; rw [if_pos h]
  exact ⟨e, by unfold pkS; rw [e, if_neg (by decide)]⟩
theorem pk_code {p : Pk} (h : ¬ (p.kind < 1 ∨ 15 < p.kind)) (h1 : (wAll p).c ≠ 0) : pkC p = (wAll p).c ∧ pkS p = ⟨#[]⟩ := by
  have e : pkC p = (wAll p).c := by unfold pkC; rw [if_neg h, if_pos h1]
  exact ⟨e, by unfold pkS; rw [e, if_neg h1]⟩
theorem pk_large {p : Pk} (h : ¬ (p.kind < 1 ∨ 15 < p.kind)) (h1 : (wAll p).c = 0) (h2 : 65536 < (wAll p).s.size) : pkC p = 149 ∧ pkS p = ⟨#[]⟩ := by
  have e : pkC p = 149 := by unfold pkC; rw [if_neg h, if_neg (by rw [h1]; decide), if_pos h2]
  exact ⟨e, by unfold pkS; rw [e, if_neg (by decide)]⟩
theorem pk_ok {p : Pk} (h : ¬ (p.kind < 1 ∨ 15 < p.kind)) (h1 : (wAll p).c = 0) (h2 : ¬ 65536 < (wAll p).s.size) : pkC p = 0 ∧ pkS p = ⟨(fixS 1 (16 * p.kind + pFlags p)).toArray⟩ ++ ⟨(enc (wAll p).s.size).toArray⟩ ++ (wAll p).s := by
  have e : pkC p = 0 := by unfold pkC; rw [if_neg h, if_neg (by rw [h1]; decide), if_neg h2]
  exact ⟨e, by unfold pkS; rw [e, if_pos rfl]⟩
theorem wHead_size (p : Pk) : (wHead p).s.size = 0 := by
  unfold wHead
  split
  · split
    · rw [fail_size, qos_size]; rfl
    · rw [qos_size]; rfl
  · rfl
set_option maxRecDepth 100000 in
set_option maxHeartbeats 4000000 in
theorem wput_out (p : Pk) (m : Hs) (w : World) (hk : p.kind < 1 ∨ 15 < p.kind) :
    Calls Tryd.prog 15 #[pkV .u8 p m] w fun e w' => PkPut p w w' e := by
  have hB := Blk.new w (pkA .u8 p m) 45
  have b1 : Below w.heap.size w (w.alloc (.cells (pkA .u8 p m) 45)) := (Below.refl _ _).alloc (Nat.le_refl _) _
  obtain ⟨W, hW⟩ : ∃ W, w.alloc (.cells (pkA .u8 p m) 45) = W := ⟨_, rfl⟩
  rw [hW] at hB b1
  have b2 := b1.alloc b1.size (.cells #[.pointer none, .slice none 0 0, .int .u8 0] 94)
  have hB2 := hB.alloc (.cells #[.pointer none, .slice none 0 0, .int .u8 0] 94)
  obtain ⟨X, hX⟩ : ∃ X, W.alloc (.cells #[.pointer none, .slice none 0 0, .int .u8 0] 94) = X := ⟨_, rfl⟩
  rw [hX] at b2 hB2
  have k0 : W.cell? ⟨w.heap.size, 0, none⟩ = some (.int .i64 p.kind) := hB.cell 0
  have x0 : X.cell? ⟨w.heap.size, 0, none⟩ = some (.int .i64 p.kind) := hB2.cell 0
  have B2 := Lib.hid b2
  obtain ⟨q1, q2⟩ := pk_out hk
  have Q1 := Lib.hid q1
  have Q2 := Lib.hid q2
  clear hB hB2 b1 b2 q1 q2
  unfold pkV
  rcases hk with hk | hk
  · go_enter Tryd.func15, Tryd.ntmps15
    go_wp2_with fail
    (with_reducible refine (kflags_any _ _).mono ?_)
    rintro e w1 ⟨rfl, rfl⟩
    go_wp2
    go_ret2
    exact ⟨by rw [Q1.out, Q2.out]; rfl, B2.out⟩
  · have hk1 : ¬ p.kind < 1 := by omega
    go_enter Tryd.func15, Tryd.ntmps15
    go_wp2_with fail
    (with_reducible refine (kflags_any _ _).mono ?_)
    rintro e w1 ⟨rfl, rfl⟩
    go_wp2
    go_ret2
    exact ⟨by rw [Q1.out, Q2.out]; rfl, B2.out⟩
set_option maxRecDepth 100000 in
set_option maxHeartbeats 8000000 in
theorem wput_c (p : Pk) (m : Hs) (w : World) (hP : PkIn .u8 w p m) (hT : Tabs w) (hk : ¬ (p.kind < 1 ∨ 15 < p.kind)) (h3 : p.kind ≠ 3) :
    Calls Tryd.prog 15 #[pkV .u8 p m] w fun e w' => PkPut p w w' e := by
  have hB := Blk.new w (pkA .u8 p m) 45
  have b1 : Below w.heap.size w (w.alloc (.cells (pkA .u8 p m) 45)) := (Below.refl _ _).alloc (Nat.le_refl _) _
  obtain ⟨W, hW⟩ : ∃ W, w.alloc (.cells (pkA .u8 p m) 45) = W := ⟨_, rfl⟩
  rw [hW] at hB b1
  have hA : Wst w W.heap.size ⟨⟨#[]⟩, 0⟩ (W.alloc (.cells #[.pointer none, .slice none 0 0, .int .u8 0] 94)) := ⟨b1.alloc b1.size _, b1.size, .pointer none, .slice none 0 0, .inl rfl, Blk.new _ _ _, World.ownsRow_nil _ _ _ _⟩
  have hB2 := hB.alloc (.cells #[.pointer none, .slice none 0 0, .int .u8 0] 94)
  obtain ⟨X, hX⟩ : ∃ X, W.alloc (.cells #[.pointer none, .slice none 0 0, .int .u8 0] 94) = X := ⟨_, rfl⟩
  rw [hX] at hA hB2
  have k0 : W.cell? ⟨w.heap.size, 0, none⟩ = some (.int .i64 p.kind) := hB.cell 0
  have x0 : X.cell? ⟨w.heap.size, 0, none⟩ = some (.int .i64 p.kind) := hB2.cell 0
  have HB := Lib.hid hB2
  have HA := Lib.hid hA
  have HP := Lib.hid hP
  have hk1 : ¬ p.kind < 1 := by omega
  have hk2 : ¬ 15 < p.kind := by omega
  have HK := Lib.hid hk
  have hs0 := wHead_size p
  obtain ⟨b, hb⟩ : ∃ b, W.heap.size = b := ⟨_, rfl⟩
  rw [hb] at HA
  have t3 : (p.kind == 3) = false := beq_eq_false_iff_ne.2 h3
  have hH : wHead p = ⟨⟨#[]⟩, 0⟩ := by unfold wHead; rw [if_neg h3]
  have HH : Hid (Wst w b (wHead p) X) := Lib.hid (by rw [hH]; exact HA.out)
  have HFL : Hid (pFlags p = kFlags p.kind) := Lib.hid (by unfold pFlags; rw [if_neg h3])
  have HFB : Hid (0 ≤ kFlags p.kind ∧ kFlags p.kind ≤ 15) := Lib.hid (by unfold kFlags; split <;> decide)
  clear hB b1 hA hB2 hP hk h3 hH
  unfold pkV
  go_enter Tryd.func15, Tryd.ntmps15
  go_wp2_with fail
  (with_reducible refine (kflags_any _ _).mono ?_)
  rintro e w1 ⟨rfl, rfl⟩
  have CB := wbody_any w b (wHead p) p m _ HP.out (by rw [wHead_size]; decide) HH.out hT
  change Calls _ _ _ _ (fun e w' => WPost w b (wAll p) _ w' e) at CB
  unfold pkV at CB
  obtain ⟨O, hO⟩ : ∃ O, wAll p = O := ⟨_, rfl⟩
  rw [hO] at CB
  have HO := Lib.hid hO
  have CB := Lib.hid CB
  clear hO
  by_cases hc : O.c = 0
  · have HC := Lib.hid hc
    by_cases hbig : 65536 < O.s.size
    · go_wp2_with (refine wpList_load_row rfl 45 (.tmp 1) rfl w.heap.size rfl 45 (pkA .u8 p m) (0, 0) _ HB.out Tryd.underlying45 rfl pk_size ?_)
      (with_reducible refine CB.out.mono ?_)
      rintro e wz ⟨rfl, hz, mz⟩
      have HZ := Lib.hid hz
      have BZ := Lib.hid (HB.out.modT mz (by unfold wT; decide))
      obtain ⟨vp, vs, hwb⟩ := wr_blk hz.wr
      rw [hc] at hwb
      have z1 : wz.cell? ⟨b, 1 + 1, none⟩ = some (.int .u8 0) := hwb.cell 2
      have z2 : wz.cell? ⟨b, 2, none⟩ = some (.int .u8 0) := hwb.cell 2
      have CL := Lib.hid (wlen_any w.heap.size b O.s O.c wz hz.wr)
      clear hz mz hwb
      have hsz : (65536 : Int) < (O.s.size : Int) := by omega
      go_wp2_with fail
      (with_reducible refine CL.out.mono ?_)
      rintro e w9 ⟨rfl, rfl⟩
      go_wp2
      go_ret2
      obtain ⟨q1, q2⟩ := pk_large HK.out (by rw [HO.out]; exact HC.out) (by rw [HO.out]; exact hbig)
      exact ⟨by rw [q1, q2]; rfl, HZ.out.below⟩
    · go_wp2_with (refine wpList_load_row rfl 45 (.tmp 1) rfl w.heap.size rfl 45 (pkA .u8 p m) (0, 0) _ HB.out Tryd.underlying45 rfl pk_size ?_)
      (with_reducible refine CB.out.mono ?_)
      rintro e wz ⟨rfl, hz, mz⟩
      have HZ := Lib.hid hz
      have BZ := Lib.hid (HB.out.modT mz (by unfold wT; decide))
      obtain ⟨vp, vs, hwb⟩ := wr_blk hz.wr
      rw [hc] at hwb
      have z1 : wz.cell? ⟨b, 1 + 1, none⟩ = some (.int .u8 0) := hwb.cell 2
      have z2 : wz.cell? ⟨b, 2, none⟩ = some (.int .u8 0) := hwb.cell 2
      have CL := Lib.hid (wlen_any w.heap.size b O.s O.c wz hz.wr)
      clear hz mz hwb
      have hsz : ¬ (65536 : Int) < (O.s.size : Int) := by omega
      have z0 : wz.cell? ⟨w.heap.size, 0, none⟩ = some (.int .i64 p.kind) := BZ.out.cell 0
      obtain ⟨q1, q2⟩ := pk_ok HK.out (by rw [HO.out]; exact HC.out) (by rw [HO.out]; exact hbig)
      rw [HO.out, show 16 * p.kind + pFlags p = p.kind * 16 + kFlags p.kind from by rw [HFL.out]; omega] at q2
      obtain ⟨fx, hfx⟩ : ∃ x, (⟨(fixS 1 (p.kind * 16 + kFlags p.kind)).toArray⟩ : ByteArray) = x := ⟨_, rfl⟩
      obtain ⟨ex, hex⟩ : ∃ x, (⟨(enc (O.s.size : Int)).toArray⟩ : ByteArray) = x := ⟨_, rfl⟩
      have s1 : ex.size ≤ 4 := by rw [← hex]; have := enc_small O.s.size; show (enc (O.s.size : Int)).toArray.size ≤ 4; simpa using this
      have s2 : fx.size ≤ 1 := by rw [← hfx]; have := fixS_len 1 (p.kind * 16 + kFlags p.kind); show (fixS 1 (p.kind * 16 + kFlags p.kind)).toArray.size ≤ 1; simpa using this
      have s3 : (fx ++ ex).size ≤ 5 := by rw [ByteArray.size_append]; omega
      have s4 : O.s.size ≤ 65536 := by omega
      have CX := fixed_all 1 (p.kind * 16 + kFlags p.kind) wz
      rw [hfx] at CX
      have CE : ∀ Y : World, _ := fun Y => put_all (O.s.size : Int) Y
      rw [hex] at CE
      rw [hfx, hex] at q2
      have CX := Lib.hid CX
      have CE := Lib.hid CE
      have Q1 := Lib.hid q1
      have Q2 := Lib.hid q2
      have hfl := HFB.out
      clear q1 q2 hfx hex
      go_wp2_with fail
      (with_reducible refine CL.out.mono ?_)
      rintro e w9 ⟨rfl, rfl⟩
      go_wp2_with fail
      (with_reducible refine CX.out.mono ?_)
      rintro e w10 ⟨rfl, b10⟩
      have H10 := Lib.hid (HZ.out.step b10)
      have CL2 := Lib.hid (wlen_any w.heap.size b O.s O.c w10 H10.out.wr)
      clear b10
      go_wp2_with fail
      (with_reducible refine CL2.out.mono ?_)
      rintro e w11 ⟨rfl, rfl⟩
      go_wp2_with fail
      (with_reducible refine (CE.out _).mono ?_)
      rintro e w12 ⟨rfl, b12⟩
      have H12 := Lib.hid (H10.out.step b12)
      have CS := Lib.hid (wstr_any w.heap.size b O.s O.c w12 H12.out.wr H12.out.below.size)
      clear b12
      go_wp2_with fail
      (with_reducible refine CS.out.mono ?_)
      rintro e w13 ⟨rfl, b13⟩
      go_wp2
      go_ret2
      exact ⟨by rw [Q1.out, Q2.out]; rfl, H12.out.below.trans b13⟩
  · have e0 : (O.c == 0) = false := beq_eq_false_iff_ne.2 hc
    have e1 : (O.c != 0) = true := by rw [bne, e0]; rfl
    have HC := Lib.hid hc
    clear hc
    go_wp2_with (refine wpList_load_row rfl 45 (.tmp 1) rfl w.heap.size rfl 45 (pkA .u8 p m) (0, 0) _ HB.out Tryd.underlying45 rfl pk_size ?_)
    (with_reducible refine CB.out.mono ?_)
    rintro e wz ⟨rfl, hz, mz⟩
    have HZ := Lib.hid hz
    have BZ := Lib.hid (HB.out.modT mz (by unfold wT; decide))
    obtain ⟨vp, vs, hwb⟩ := wr_blk hz.wr
    have z1 : wz.cell? ⟨b, 1 + 1, none⟩ = some (.int .u8 O.c) := hwb.cell 2
    have z2 : wz.cell? ⟨b, 2, none⟩ = some (.int .u8 O.c) := hwb.cell 2
    clear hz mz hwb
    go_wp2_with fail
    go_quiet (fail)
    go_wp2
    go_ret2
    obtain ⟨q1, q2⟩ := pk_code HK.out (by rw [HO.out]; exact HC.out)
    exact ⟨by rw [q1, q2, HO.out]; rfl, ⟨HZ.out.below.os, HZ.out.below.tape, HZ.out.below.output, HZ.out.below.size, HZ.out.below.block⟩⟩
set_option maxRecDepth 100000 in
set_option maxHeartbeats 8000000 in
theorem wput_b1 (p : Pk) (m : Hs) (w : World) (hP : PkIn .u8 w p m) (hT : Tabs w) (hk : ¬ (p.kind < 1 ∨ 15 < p.kind)) (h3 : p.kind = 3) (hd : p.dup = false) :
    Calls Tryd.prog 15 #[pkV .u8 p m] w fun e w' => PkPut p w w' e := by
  have hB := Blk.new w (pkA .u8 p m) 45
  have b1 : Below w.heap.size w (w.alloc (.cells (pkA .u8 p m) 45)) := (Below.refl _ _).alloc (Nat.le_refl _) _
  obtain ⟨W, hW⟩ : ∃ W, w.alloc (.cells (pkA .u8 p m) 45) = W := ⟨_, rfl⟩
  rw [hW] at hB b1
  have hA : Wst w W.heap.size ⟨⟨#[]⟩, 0⟩ (W.alloc (.cells #[.pointer none, .slice none 0 0, .int .u8 0] 94)) := ⟨b1.alloc b1.size _, b1.size, .pointer none, .slice none 0 0, .inl rfl, Blk.new _ _ _, World.ownsRow_nil _ _ _ _⟩
  have hB2 := hB.alloc (.cells #[.pointer none, .slice none 0 0, .int .u8 0] 94)
  obtain ⟨X, hX⟩ : ∃ X, W.alloc (.cells #[.pointer none, .slice none 0 0, .int .u8 0] 94) = X := ⟨_, rfl⟩
  rw [hX] at hA hB2
  have k0 : W.cell? ⟨w.heap.size, 0, none⟩ = some (.int .i64 p.kind) := hB.cell 0
  have x0 : X.cell? ⟨w.heap.size, 0, none⟩ = some (.int .i64 p.kind) := hB2.cell 0
  have HB := Lib.hid hB2
  have HA := Lib.hid hA
  have HP := Lib.hid hP
  have hk1 : ¬ p.kind < 1 := by omega
  have hk2 : ¬ 15 < p.kind := by omega
  have HK := Lib.hid hk
  have hs0 := wHead_size p
  obtain ⟨b, hb⟩ : ∃ b, W.heap.size = b := ⟨_, rfl⟩
  rw [hb] at HA
  have t3 : (p.kind == 3) = true := by rw [h3]; rfl
  have HFL : Hid (pFlags p = (bt1 p.dup 8 + p.q % 4 * 2 + bt1 p.ret 1)) := Lib.hid (by unfold pFlags; rw [if_pos h3]; omega)
  have a1 := Int.emod_nonneg p.q (show (4 : Int) ≠ 0 by decide)
  have a2 := Int.emod_lt_of_pos p.q (show (0 : Int) < 4 by decide)
  have a3 := bt1_bd p.dup 8 (by decide)
  have a4 := bt1_bd p.ret 1 (by decide)
  have HFB : Hid (0 ≤ (bt1 p.dup 8 + p.q % 4 * 2 + bt1 p.ret 1) ∧ (bt1 p.dup 8 + p.q % 4 * 2 + bt1 p.ret 1) ≤ 15) := Lib.hid (by omega)
  have r0 : IntKind.i64.wrap (p.q % 4 * 2) = p.q % 4 * 2 := IntWalk.i64_in _ (by omega)
  have r1 : IntKind.i64.wrap (bt1 p.dup 8 + p.q % 4 * 2) = bt1 p.dup 8 + p.q % 4 * 2 := IntWalk.i64_in _ (by omega)
  have r2 : IntKind.i64.wrap (bt1 p.dup 8 + p.q % 4 * 2 + bt1 p.ret 1) = bt1 p.dup 8 + p.q % 4 * 2 + bt1 p.ret 1 := IntWalk.i64_in _ (by omega)
  have hand := and_3 hP.fits.q.1 hP.fits.q.2
  have x3 : X.cell? ⟨w.heap.size, 3, none⟩ = some (.int .i64 p.q) := hB2.cell 3
  have CQ := Lib.hid (wqos_any w b ⟨⟨#[]⟩, 0⟩ p.q X HA.out)
  have HH0 : Hid (wHead p = wQos ⟨⟨#[]⟩, 0⟩ p.q) := Lib.hid (by unfold wHead; rw [if_pos h3, hd, if_neg (by simp)])
  have HD := Lib.hid hd
  clear hB b1 hA hB2 hP hk h3 hd a1 a2 a3 a4
  unfold pkV
  go_enter Tryd.func15, Tryd.ntmps15
  go_wp2_with fail
  (with_reducible refine (kflags_any _ _).mono ?_)
  rintro e w1 ⟨rfl, rfl⟩
  go_wp2_with fail
  (with_reducible refine CQ.out.mono ?_)
  rintro e wa ⟨rfl, ha, ma⟩
  have BA := Lib.hid (HB.out.modT ma (by unfold wT; decide))
  have d1 : wa.cell? ⟨w.heap.size, 1, none⟩ = some (.bool false) := (BA.out.cell 1).trans (by show some (Value.bool p.dup) = _; rw [HD.out])
  have d2 : wa.cell? ⟨w.heap.size, 2, none⟩ = some (.bool p.ret) := BA.out.cell 2
  have d3 : wa.cell? ⟨w.heap.size, 3, none⟩ = some (.int .i64 p.q) := BA.out.cell 3
  go_wp2_with fail
  have d1' : wa.cell? ⟨w.heap.size, 1, none⟩ = some (.bool p.dup) := BA.out.cell 1
  clear d1
  rw [← HH0.out] at ha
  have HX := Lib.hid ha
  clear ha ma
  go_quiet ((go_at_call 25; exact Calls.quiet_of_same (bit_q _ _ _)))
  have HY := Lib.hid (Wst.drewN HX.out nq)
  have BY : Hid (Blk (wa.drewN nq) w.heap.size (pkA .u8 p m) 45) := Lib.hid BA.out
  obtain ⟨Y, hY⟩ : ∃ Y, wa.drewN nq = Y := ⟨_, rfl⟩
  rw [hY] at HY BY ⊢
  clear hY
  have CB := wbody_any w b (wHead p) p m _ HP.out (by rw [wHead_size]; decide) HY.out hT
  change Calls _ _ _ _ (fun e w' => WPost w b (wAll p) _ w' e) at CB
  unfold pkV at CB
  obtain ⟨O, hO⟩ : ∃ O, wAll p = O := ⟨_, rfl⟩
  rw [hO] at CB
  have HO := Lib.hid hO
  have CB := Lib.hid CB
  clear hO
  by_cases hc : O.c = 0
  · have HC := Lib.hid hc
    by_cases hbig : 65536 < O.s.size
    · go_wp2_with (refine wpList_load_row rfl 45 (.tmp 1) rfl w.heap.size rfl 45 (pkA .u8 p m) (0, 0) _ BY.out Tryd.underlying45 rfl pk_size ?_)
      (with_reducible refine CB.out.mono ?_)
      rintro e wz ⟨rfl, hz, mz⟩
      have HZ := Lib.hid hz
      have BZ := Lib.hid (BY.out.modT mz (by unfold wT; decide))
      obtain ⟨vp, vs, hwb⟩ := wr_blk hz.wr
      rw [hc] at hwb
      have z1 : wz.cell? ⟨b, 1 + 1, none⟩ = some (.int .u8 0) := hwb.cell 2
      have z2 : wz.cell? ⟨b, 2, none⟩ = some (.int .u8 0) := hwb.cell 2
      have CL := Lib.hid (wlen_any w.heap.size b O.s O.c wz hz.wr)
      clear hz mz hwb
      have hsz : (65536 : Int) < (O.s.size : Int) := by omega
      go_wp2_with fail
      (with_reducible refine CL.out.mono ?_)
      rintro e w9 ⟨rfl, rfl⟩
      go_wp2
      go_ret2
      obtain ⟨q1, q2⟩ := pk_large HK.out (by rw [HO.out]; exact HC.out) (by rw [HO.out]; exact hbig)
      exact ⟨by rw [q1, q2]; rfl, HZ.out.below⟩
    · go_wp2_with (refine wpList_load_row rfl 45 (.tmp 1) rfl w.heap.size rfl 45 (pkA .u8 p m) (0, 0) _ BY.out Tryd.underlying45 rfl pk_size ?_)
      (with_reducible refine CB.out.mono ?_)
      rintro e wz ⟨rfl, hz, mz⟩
      have HZ := Lib.hid hz
      have BZ := Lib.hid (BY.out.modT mz (by unfold wT; decide))
      obtain ⟨vp, vs, hwb⟩ := wr_blk hz.wr
      rw [hc] at hwb
      have z1 : wz.cell? ⟨b, 1 + 1, none⟩ = some (.int .u8 0) := hwb.cell 2
      have z2 : wz.cell? ⟨b, 2, none⟩ = some (.int .u8 0) := hwb.cell 2
      have CL := Lib.hid (wlen_any w.heap.size b O.s O.c wz hz.wr)
      clear hz mz hwb
      have hsz : ¬ (65536 : Int) < (O.s.size : Int) := by omega
      have z0 : wz.cell? ⟨w.heap.size, 0, none⟩ = some (.int .i64 p.kind) := BZ.out.cell 0
      obtain ⟨q1, q2⟩ := pk_ok HK.out (by rw [HO.out]; exact HC.out) (by rw [HO.out]; exact hbig)
      rw [HO.out, show 16 * p.kind + pFlags p = p.kind * 16 + (bt1 p.dup 8 + p.q % 4 * 2 + bt1 p.ret 1) from by rw [HFL.out]; omega] at q2
      obtain ⟨fx, hfx⟩ : ∃ x, (⟨(fixS 1 (p.kind * 16 + (bt1 p.dup 8 + p.q % 4 * 2 + bt1 p.ret 1))).toArray⟩ : ByteArray) = x := ⟨_, rfl⟩
      obtain ⟨ex, hex⟩ : ∃ x, (⟨(enc (O.s.size : Int)).toArray⟩ : ByteArray) = x := ⟨_, rfl⟩
      have s1 : ex.size ≤ 4 := by rw [← hex]; have := enc_small O.s.size; show (enc (O.s.size : Int)).toArray.size ≤ 4; simpa using this
      have s2 : fx.size ≤ 1 := by rw [← hfx]; have := fixS_len 1 (p.kind * 16 + (bt1 p.dup 8 + p.q % 4 * 2 + bt1 p.ret 1)); show (fixS 1 (p.kind * 16 + (bt1 p.dup 8 + p.q % 4 * 2 + bt1 p.ret 1))).toArray.size ≤ 1; simpa using this
      have s3 : (fx ++ ex).size ≤ 5 := by rw [ByteArray.size_append]; omega
      have s4 : O.s.size ≤ 65536 := by omega
      have CX := fixed_all 1 (p.kind * 16 + (bt1 p.dup 8 + p.q % 4 * 2 + bt1 p.ret 1)) wz
      rw [hfx] at CX
      have CE : ∀ Y : World, _ := fun Y => put_all (O.s.size : Int) Y
      rw [hex] at CE
      rw [hfx, hex] at q2
      have CX := Lib.hid CX
      have CE := Lib.hid CE
      have Q1 := Lib.hid q1
      have Q2 := Lib.hid q2
      have hfl := HFB.out
      clear q1 q2 hfx hex
      go_wp2_with fail
      (with_reducible refine CL.out.mono ?_)
      rintro e w9 ⟨rfl, rfl⟩
      go_wp2_with fail
      (with_reducible refine CX.out.mono ?_)
      rintro e w10 ⟨rfl, b10⟩
      have H10 := Lib.hid (HZ.out.step b10)
      have CL2 := Lib.hid (wlen_any w.heap.size b O.s O.c w10 H10.out.wr)
      clear b10
      go_wp2_with fail
      (with_reducible refine CL2.out.mono ?_)
      rintro e w11 ⟨rfl, rfl⟩
      go_wp2_with fail
      (with_reducible refine (CE.out _).mono ?_)
      rintro e w12 ⟨rfl, b12⟩
      have H12 := Lib.hid (H10.out.step b12)
      have CS := Lib.hid (wstr_any w.heap.size b O.s O.c w12 H12.out.wr H12.out.below.size)
      clear b12
      go_wp2_with fail
      (with_reducible refine CS.out.mono ?_)
      rintro e w13 ⟨rfl, b13⟩
      go_wp2
      go_ret2
      exact ⟨by rw [Q1.out, Q2.out]; rfl, H12.out.below.trans b13⟩
  · have e0 : (O.c == 0) = false := beq_eq_false_iff_ne.2 hc
    have e1 : (O.c != 0) = true := by rw [bne, e0]; rfl
    have HC := Lib.hid hc
    clear hc
    go_wp2_with (refine wpList_load_row rfl 45 (.tmp 1) rfl w.heap.size rfl 45 (pkA .u8 p m) (0, 0) _ BY.out Tryd.underlying45 rfl pk_size ?_)
    (with_reducible refine CB.out.mono ?_)
    rintro e wz ⟨rfl, hz, mz⟩
    have HZ := Lib.hid hz
    have BZ := Lib.hid (BY.out.modT mz (by unfold wT; decide))
    obtain ⟨vp, vs, hwb⟩ := wr_blk hz.wr
    have z1 : wz.cell? ⟨b, 1 + 1, none⟩ = some (.int .u8 O.c) := hwb.cell 2
    have z2 : wz.cell? ⟨b, 2, none⟩ = some (.int .u8 O.c) := hwb.cell 2
    clear hz mz hwb
    go_wp2_with fail
    go_quiet (fail)
    go_wp2
    go_ret2
    obtain ⟨q1, q2⟩ := pk_code HK.out (by rw [HO.out]; exact HC.out)
    exact ⟨by rw [q1, q2, HO.out]; rfl, ⟨HZ.out.below.os, HZ.out.below.tape, HZ.out.below.output, HZ.out.below.size, HZ.out.below.block⟩⟩
set_option maxRecDepth 100000 in
set_option maxHeartbeats 8000000 in
theorem wput_b2 (p : Pk) (m : Hs) (w : World) (hP : PkIn .u8 w p m) (hT : Tabs w) (hk : ¬ (p.kind < 1 ∨ 15 < p.kind)) (h3 : p.kind = 3) (hd : p.dup = true) (hq : p.q = 0) :
    Calls Tryd.prog 15 #[pkV .u8 p m] w fun e w' => PkPut p w w' e := by
  have hB := Blk.new w (pkA .u8 p m) 45
  have b1 : Below w.heap.size w (w.alloc (.cells (pkA .u8 p m) 45)) := (Below.refl _ _).alloc (Nat.le_refl _) _
  obtain ⟨W, hW⟩ : ∃ W, w.alloc (.cells (pkA .u8 p m) 45) = W := ⟨_, rfl⟩
  rw [hW] at hB b1
  have hA : Wst w W.heap.size ⟨⟨#[]⟩, 0⟩ (W.alloc (.cells #[.pointer none, .slice none 0 0, .int .u8 0] 94)) := ⟨b1.alloc b1.size _, b1.size, .pointer none, .slice none 0 0, .inl rfl, Blk.new _ _ _, World.ownsRow_nil _ _ _ _⟩
  have hB2 := hB.alloc (.cells #[.pointer none, .slice none 0 0, .int .u8 0] 94)
  obtain ⟨X, hX⟩ : ∃ X, W.alloc (.cells #[.pointer none, .slice none 0 0, .int .u8 0] 94) = X := ⟨_, rfl⟩
  rw [hX] at hA hB2
  have k0 : W.cell? ⟨w.heap.size, 0, none⟩ = some (.int .i64 p.kind) := hB.cell 0
  have x0 : X.cell? ⟨w.heap.size, 0, none⟩ = some (.int .i64 p.kind) := hB2.cell 0
  have HB := Lib.hid hB2
  have HA := Lib.hid hA
  have HP := Lib.hid hP
  have hk1 : ¬ p.kind < 1 := by omega
  have hk2 : ¬ 15 < p.kind := by omega
  have HK := Lib.hid hk
  have hs0 := wHead_size p
  obtain ⟨b, hb⟩ : ∃ b, W.heap.size = b := ⟨_, rfl⟩
  rw [hb] at HA
  have t3 : (p.kind == 3) = true := by rw [h3]; rfl
  have HFL : Hid (pFlags p = (bt1 p.dup 8 + p.q % 4 * 2 + bt1 p.ret 1)) := Lib.hid (by unfold pFlags; rw [if_pos h3]; omega)
  have a1 := Int.emod_nonneg p.q (show (4 : Int) ≠ 0 by decide)
  have a2 := Int.emod_lt_of_pos p.q (show (0 : Int) < 4 by decide)
  have a3 := bt1_bd p.dup 8 (by decide)
  have a4 := bt1_bd p.ret 1 (by decide)
  have HFB : Hid (0 ≤ (bt1 p.dup 8 + p.q % 4 * 2 + bt1 p.ret 1) ∧ (bt1 p.dup 8 + p.q % 4 * 2 + bt1 p.ret 1) ≤ 15) := Lib.hid (by omega)
  have r0 : IntKind.i64.wrap (p.q % 4 * 2) = p.q % 4 * 2 := IntWalk.i64_in _ (by omega)
  have r1 : IntKind.i64.wrap (bt1 p.dup 8 + p.q % 4 * 2) = bt1 p.dup 8 + p.q % 4 * 2 := IntWalk.i64_in _ (by omega)
  have r2 : IntKind.i64.wrap (bt1 p.dup 8 + p.q % 4 * 2 + bt1 p.ret 1) = bt1 p.dup 8 + p.q % 4 * 2 + bt1 p.ret 1 := IntWalk.i64_in _ (by omega)
  have hand := and_3 hP.fits.q.1 hP.fits.q.2
  have x3 : X.cell? ⟨w.heap.size, 3, none⟩ = some (.int .i64 p.q) := hB2.cell 3
  have CQ := Lib.hid (wqos_any w b ⟨⟨#[]⟩, 0⟩ p.q X HA.out)
  have HH0 : Hid (wHead p = (wQos ⟨⟨#[]⟩, 0⟩ p.q).fail 129) := Lib.hid (by unfold wHead; rw [if_pos h3, if_pos ⟨hd, hq⟩])
  have hq0 : (p.q == 0) = true := by rw [hq]; rfl
  have HD := Lib.hid hd
  clear hB b1 hA hB2 hP hk h3 hd a1 a2 a3 a4 hq
  unfold pkV
  go_enter Tryd.func15, Tryd.ntmps15
  go_wp2_with fail
  (with_reducible refine (kflags_any _ _).mono ?_)
  rintro e w1 ⟨rfl, rfl⟩
  go_wp2_with fail
  (with_reducible refine CQ.out.mono ?_)
  rintro e wa ⟨rfl, ha, ma⟩
  have BA := Lib.hid (HB.out.modT ma (by unfold wT; decide))
  have d1 : wa.cell? ⟨w.heap.size, 1, none⟩ = some (.bool true) := (BA.out.cell 1).trans (by show some (Value.bool p.dup) = _; rw [HD.out])
  have d2 : wa.cell? ⟨w.heap.size, 2, none⟩ = some (.bool p.ret) := BA.out.cell 2
  have d3 : wa.cell? ⟨w.heap.size, 3, none⟩ = some (.int .i64 p.q) := BA.out.cell 3
  have CF := Lib.hid (wfail_any w b _ 129 wa ha)
  clear ha ma
  go_wp2_with fail
  (with_reducible refine CF.out.mono ?_)
  rintro e wc ⟨rfl, ha, ma⟩
  have BA := Lib.hid (BA.out.modT ma (by unfold wT; decide))
  clear d1 d2 d3
  have d1 : wc.cell? ⟨w.heap.size, 1, none⟩ = some (.bool p.dup) := BA.out.cell 1
  have d2 : wc.cell? ⟨w.heap.size, 2, none⟩ = some (.bool p.ret) := BA.out.cell 2
  have d3 : wc.cell? ⟨w.heap.size, 3, none⟩ = some (.int .i64 p.q) := BA.out.cell 3
  go_wp2_with fail
  rw [← HH0.out] at ha
  have HX := Lib.hid ha
  clear ha ma
  go_quiet ((go_at_call 25; exact Calls.quiet_of_same (bit_q _ _ _)))
  have HY := Lib.hid (Wst.drewN HX.out nq)
  have BY : Hid (Blk (wc.drewN nq) w.heap.size (pkA .u8 p m) 45) := Lib.hid BA.out
  obtain ⟨Y, hY⟩ : ∃ Y, wc.drewN nq = Y := ⟨_, rfl⟩
  rw [hY] at HY BY ⊢
  clear hY
  have CB := wbody_any w b (wHead p) p m _ HP.out (by rw [wHead_size]; decide) HY.out hT
  change Calls _ _ _ _ (fun e w' => WPost w b (wAll p) _ w' e) at CB
  unfold pkV at CB
  obtain ⟨O, hO⟩ : ∃ O, wAll p = O := ⟨_, rfl⟩
  rw [hO] at CB
  have HO := Lib.hid hO
  have CB := Lib.hid CB
  clear hO
  by_cases hc : O.c = 0
  · have HC := Lib.hid hc
    by_cases hbig : 65536 < O.s.size
    · go_wp2_with (refine wpList_load_row rfl 45 (.tmp 1) rfl w.heap.size rfl 45 (pkA .u8 p m) (0, 0) _ BY.out Tryd.underlying45 rfl pk_size ?_)
      (with_reducible refine CB.out.mono ?_)
      rintro e wz ⟨rfl, hz, mz⟩
      have HZ := Lib.hid hz
      have BZ := Lib.hid (BY.out.modT mz (by unfold wT; decide))
      obtain ⟨vp, vs, hwb⟩ := wr_blk hz.wr
      rw [hc] at hwb
      have z1 : wz.cell? ⟨b, 1 + 1, none⟩ = some (.int .u8 0) := hwb.cell 2
      have z2 : wz.cell? ⟨b, 2, none⟩ = some (.int .u8 0) := hwb.cell 2
      have CL := Lib.hid (wlen_any w.heap.size b O.s O.c wz hz.wr)
      clear hz mz hwb
      have hsz : (65536 : Int) < (O.s.size : Int) := by omega
      go_wp2_with fail
      (with_reducible refine CL.out.mono ?_)
      rintro e w9 ⟨rfl, rfl⟩
      go_wp2
      go_ret2
      obtain ⟨q1, q2⟩ := pk_large HK.out (by rw [HO.out]; exact HC.out) (by rw [HO.out]; exact hbig)
      exact ⟨by rw [q1, q2]; rfl, HZ.out.below⟩
    · go_wp2_with (refine wpList_load_row rfl 45 (.tmp 1) rfl w.heap.size rfl 45 (pkA .u8 p m) (0, 0) _ BY.out Tryd.underlying45 rfl pk_size ?_)
      (with_reducible refine CB.out.mono ?_)
      rintro e wz ⟨rfl, hz, mz⟩
      have HZ := Lib.hid hz
      have BZ := Lib.hid (BY.out.modT mz (by unfold wT; decide))
      obtain ⟨vp, vs, hwb⟩ := wr_blk hz.wr
      rw [hc] at hwb
      have z1 : wz.cell? ⟨b, 1 + 1, none⟩ = some (.int .u8 0) := hwb.cell 2
      have z2 : wz.cell? ⟨b, 2, none⟩ = some (.int .u8 0) := hwb.cell 2
      have CL := Lib.hid (wlen_any w.heap.size b O.s O.c wz hz.wr)
      clear hz mz hwb
      have hsz : ¬ (65536 : Int) < (O.s.size : Int) := by omega
      have z0 : wz.cell? ⟨w.heap.size, 0, none⟩ = some (.int .i64 p.kind) := BZ.out.cell 0
      obtain ⟨q1, q2⟩ := pk_ok HK.out (by rw [HO.out]; exact HC.out) (by rw [HO.out]; exact hbig)
      rw [HO.out, show 16 * p.kind + pFlags p = p.kind * 16 + (bt1 p.dup 8 + p.q % 4 * 2 + bt1 p.ret 1) from by rw [HFL.out]; omega] at q2
      obtain ⟨fx, hfx⟩ : ∃ x, (⟨(fixS 1 (p.kind * 16 + (bt1 p.dup 8 + p.q % 4 * 2 + bt1 p.ret 1))).toArray⟩ : ByteArray) = x := ⟨_, rfl⟩
      obtain ⟨ex, hex⟩ : ∃ x, (⟨(enc (O.s.size : Int)).toArray⟩ : ByteArray) = x := ⟨_, rfl⟩
      have s1 : ex.size ≤ 4 := by rw [← hex]; have := enc_small O.s.size; show (enc (O.s.size : Int)).toArray.size ≤ 4; simpa using this
      have s2 : fx.size ≤ 1 := by rw [← hfx]; have := fixS_len 1 (p.kind * 16 + (bt1 p.dup 8 + p.q % 4 * 2 + bt1 p.ret 1)); show (fixS 1 (p.kind * 16 + (bt1 p.dup 8 + p.q % 4 * 2 + bt1 p.ret 1))).toArray.size ≤ 1; simpa using this
      have s3 : (fx ++ ex).size ≤ 5 := by rw [ByteArray.size_append]; omega
      have s4 : O.s.size ≤ 65536 := by omega
      have CX := fixed_all 1 (p.kind * 16 + (bt1 p.dup 8 + p.q % 4 * 2 + bt1 p.ret 1)) wz
      rw [hfx] at CX
      have CE : ∀ Y : World, _ := fun Y => put_all (O.s.size : Int) Y
      rw [hex] at CE
      rw [hfx, hex] at q2
      have CX := Lib.hid CX
      have CE := Lib.hid CE
      have Q1 := Lib.hid q1
      have Q2 := Lib.hid q2
      have hfl := HFB.out
      clear q1 q2 hfx hex
      go_wp2_with fail
      (with_reducible refine CL.out.mono ?_)
      rintro e w9 ⟨rfl, rfl⟩
      go_wp2_with fail
      (with_reducible refine CX.out.mono ?_)
      rintro e w10 ⟨rfl, b10⟩
      have H10 := Lib.hid (HZ.out.step b10)
      have CL2 := Lib.hid (wlen_any w.heap.size b O.s O.c w10 H10.out.wr)
      clear b10
      go_wp2_with fail
      (with_reducible refine CL2.out.mono ?_)
      rintro e w11 ⟨rfl, rfl⟩
      go_wp2_with fail
      (with_reducible refine (CE.out _).mono ?_)
      rintro e w12 ⟨rfl, b12⟩
      have H12 := Lib.hid (H10.out.step b12)
      have CS := Lib.hid (wstr_any w.heap.size b O.s O.c w12 H12.out.wr H12.out.below.size)
      clear b12
      go_wp2_with fail
      (with_reducible refine CS.out.mono ?_)
      rintro e w13 ⟨rfl, b13⟩
      go_wp2
      go_ret2
      exact ⟨by rw [Q1.out, Q2.out]; rfl, H12.out.below.trans b13⟩
  · have e0 : (O.c == 0) = false := beq_eq_false_iff_ne.2 hc
    have e1 : (O.c != 0) = true := by rw [bne, e0]; rfl
    have HC := Lib.hid hc
    clear hc
    go_wp2_with (refine wpList_load_row rfl 45 (.tmp 1) rfl w.heap.size rfl 45 (pkA .u8 p m) (0, 0) _ BY.out Tryd.underlying45 rfl pk_size ?_)
    (with_reducible refine CB.out.mono ?_)
    rintro e wz ⟨rfl, hz, mz⟩
    have HZ := Lib.hid hz
    have BZ := Lib.hid (BY.out.modT mz (by unfold wT; decide))
    obtain ⟨vp, vs, hwb⟩ := wr_blk hz.wr
    have z1 : wz.cell? ⟨b, 1 + 1, none⟩ = some (.int .u8 O.c) := hwb.cell 2
    have z2 : wz.cell? ⟨b, 2, none⟩ = some (.int .u8 O.c) := hwb.cell 2
    clear hz mz hwb
    go_wp2_with fail
    go_quiet (fail)
    go_wp2
    go_ret2
    obtain ⟨q1, q2⟩ := pk_code HK.out (by rw [HO.out]; exact HC.out)
    exact ⟨by rw [q1, q2, HO.out]; rfl, ⟨HZ.out.below.os, HZ.out.below.tape, HZ.out.below.output, HZ.out.below.size, HZ.out.below.block⟩⟩
set_option maxRecDepth 100000 in
set_option maxHeartbeats 8000000 in
theorem wput_b3 (p : Pk) (m : Hs) (w : World) (hP : PkIn .u8 w p m) (hT : Tabs w) (hk : ¬ (p.kind < 1 ∨ 15 < p.kind)) (h3 : p.kind = 3) (hd : p.dup = true) (hq : p.q ≠ 0) :
    Calls Tryd.prog 15 #[pkV .u8 p m] w fun e w' => PkPut p w w' e := by
  have hB := Blk.new w (pkA .u8 p m) 45
  have b1 : Below w.heap.size w (w.alloc (.cells (pkA .u8 p m) 45)) := (Below.refl _ _).alloc (Nat.le_refl _) _
  obtain ⟨W, hW⟩ : ∃ W, w.alloc (.cells (pkA .u8 p m) 45) = W := ⟨_, rfl⟩
  rw [hW] at hB b1
  have hA : Wst w W.heap.size ⟨⟨#[]⟩, 0⟩ (W.alloc (.cells #[.pointer none, .slice none 0 0, .int .u8 0] 94)) := ⟨b1.alloc b1.size _, b1.size, .pointer none, .slice none 0 0, .inl rfl, Blk.new _ _ _, World.ownsRow_nil _ _ _ _⟩
  have hB2 := hB.alloc (.cells #[.pointer none, .slice none 0 0, .int .u8 0] 94)
  obtain ⟨X, hX⟩ : ∃ X, W.alloc (.cells #[.pointer none, .slice none 0 0, .int .u8 0] 94) = X := ⟨_, rfl⟩
  rw [hX] at hA hB2
  have k0 : W.cell? ⟨w.heap.size, 0, none⟩ = some (.int .i64 p.kind) := hB.cell 0
  have x0 : X.cell? ⟨w.heap.size, 0, none⟩ = some (.int .i64 p.kind) := hB2.cell 0
  have HB := Lib.hid hB2
  have HA := Lib.hid hA
  have HP := Lib.hid hP
  have hk1 : ¬ p.kind < 1 := by omega
  have hk2 : ¬ 15 < p.kind := by omega
  have HK := Lib.hid hk
  have hs0 := wHead_size p
  obtain ⟨b, hb⟩ : ∃ b, W.heap.size = b := ⟨_, rfl⟩
  rw [hb] at HA
  have t3 : (p.kind == 3) = true := by rw [h3]; rfl
  have HFL : Hid (pFlags p = (bt1 p.dup 8 + p.q % 4 * 2 + bt1 p.ret 1)) := Lib.hid (by unfold pFlags; rw [if_pos h3]; omega)
  have a1 := Int.emod_nonneg p.q (show (4 : Int) ≠ 0 by decide)
  have a2 := Int.emod_lt_of_pos p.q (show (0 : Int) < 4 by decide)
  have a3 := bt1_bd p.dup 8 (by decide)
  have a4 := bt1_bd p.ret 1 (by decide)
  have HFB : Hid (0 ≤ (bt1 p.dup 8 + p.q % 4 * 2 + bt1 p.ret 1) ∧ (bt1 p.dup 8 + p.q % 4 * 2 + bt1 p.ret 1) ≤ 15) := Lib.hid (by omega)
  have r0 : IntKind.i64.wrap (p.q % 4 * 2) = p.q % 4 * 2 := IntWalk.i64_in _ (by omega)
  have r1 : IntKind.i64.wrap (bt1 p.dup 8 + p.q % 4 * 2) = bt1 p.dup 8 + p.q % 4 * 2 := IntWalk.i64_in _ (by omega)
  have r2 : IntKind.i64.wrap (bt1 p.dup 8 + p.q % 4 * 2 + bt1 p.ret 1) = bt1 p.dup 8 + p.q % 4 * 2 + bt1 p.ret 1 := IntWalk.i64_in _ (by omega)
  have hand := and_3 hP.fits.q.1 hP.fits.q.2
  have x3 : X.cell? ⟨w.heap.size, 3, none⟩ = some (.int .i64 p.q) := hB2.cell 3
  have CQ := Lib.hid (wqos_any w b ⟨⟨#[]⟩, 0⟩ p.q X HA.out)
  have HH0 : Hid (wHead p = wQos ⟨⟨#[]⟩, 0⟩ p.q) := Lib.hid (by unfold wHead; rw [if_pos h3, if_neg (fun c => hq c.2)])
  have hq0 : (p.q == 0) = false := beq_eq_false_iff_ne.2 hq
  have HD := Lib.hid hd
  clear hB b1 hA hB2 hP hk h3 hd a1 a2 a3 a4 hq
  unfold pkV
  go_enter Tryd.func15, Tryd.ntmps15
  go_wp2_with fail
  (with_reducible refine (kflags_any _ _).mono ?_)
  rintro e w1 ⟨rfl, rfl⟩
  go_wp2_with fail
  (with_reducible refine CQ.out.mono ?_)
  rintro e wa ⟨rfl, ha, ma⟩
  have BA := Lib.hid (HB.out.modT ma (by unfold wT; decide))
  have d1 : wa.cell? ⟨w.heap.size, 1, none⟩ = some (.bool true) := (BA.out.cell 1).trans (by show some (Value.bool p.dup) = _; rw [HD.out])
  have d2 : wa.cell? ⟨w.heap.size, 2, none⟩ = some (.bool p.ret) := BA.out.cell 2
  have d3 : wa.cell? ⟨w.heap.size, 3, none⟩ = some (.int .i64 p.q) := BA.out.cell 3
  go_wp2_with fail
  have d1' : wa.cell? ⟨w.heap.size, 1, none⟩ = some (.bool p.dup) := BA.out.cell 1
  clear d1
  rw [← HH0.out] at ha
  have HX := Lib.hid ha
  clear ha ma
  go_quiet ((go_at_call 25; exact Calls.quiet_of_same (bit_q _ _ _)))
  have HY := Lib.hid (Wst.drewN HX.out nq)
  have BY : Hid (Blk (wa.drewN nq) w.heap.size (pkA .u8 p m) 45) := Lib.hid BA.out
  obtain ⟨Y, hY⟩ : ∃ Y, wa.drewN nq = Y := ⟨_, rfl⟩
  rw [hY] at HY BY ⊢
  clear hY
  have CB := wbody_any w b (wHead p) p m _ HP.out (by rw [wHead_size]; decide) HY.out hT
  change Calls _ _ _ _ (fun e w' => WPost w b (wAll p) _ w' e) at CB
  unfold pkV at CB
  obtain ⟨O, hO⟩ : ∃ O, wAll p = O := ⟨_, rfl⟩
  rw [hO] at CB
  have HO := Lib.hid hO
  have CB := Lib.hid CB
  clear hO
  by_cases hc : O.c = 0
  · have HC := Lib.hid hc
    by_cases hbig : 65536 < O.s.size
    · go_wp2_with (refine wpList_load_row rfl 45 (.tmp 1) rfl w.heap.size rfl 45 (pkA .u8 p m) (0, 0) _ BY.out Tryd.underlying45 rfl pk_size ?_)
      (with_reducible refine CB.out.mono ?_)
      rintro e wz ⟨rfl, hz, mz⟩
      have HZ := Lib.hid hz
      have BZ := Lib.hid (BY.out.modT mz (by unfold wT; decide))
      obtain ⟨vp, vs, hwb⟩ := wr_blk hz.wr
      rw [hc] at hwb
      have z1 : wz.cell? ⟨b, 1 + 1, none⟩ = some (.int .u8 0) := hwb.cell 2
      have z2 : wz.cell? ⟨b, 2, none⟩ = some (.int .u8 0) := hwb.cell 2
      have CL := Lib.hid (wlen_any w.heap.size b O.s O.c wz hz.wr)
      clear hz mz hwb
      have hsz : (65536 : Int) < (O.s.size : Int) := by omega
      go_wp2_with fail
      (with_reducible refine CL.out.mono ?_)
      rintro e w9 ⟨rfl, rfl⟩
      go_wp2
      go_ret2
      obtain ⟨q1, q2⟩ := pk_large HK.out (by rw [HO.out]; exact HC.out) (by rw [HO.out]; exact hbig)
      exact ⟨by rw [q1, q2]; rfl, HZ.out.below⟩
    · go_wp2_with (refine wpList_load_row rfl 45 (.tmp 1) rfl w.heap.size rfl 45 (pkA .u8 p m) (0, 0) _ BY.out Tryd.underlying45 rfl pk_size ?_)
      (with_reducible refine CB.out.mono ?_)
      rintro e wz ⟨rfl, hz, mz⟩
      have HZ := Lib.hid hz
      have BZ := Lib.hid (BY.out.modT mz (by unfold wT; decide))
      obtain ⟨vp, vs, hwb⟩ := wr_blk hz.wr
      rw [hc] at hwb
      have z1 : wz.cell? ⟨b, 1 + 1, none⟩ = some (.int .u8 0) := hwb.cell 2
      have z2 : wz.cell? ⟨b, 2, none⟩ = some (.int .u8 0) := hwb.cell 2
      have CL := Lib.hid (wlen_any w.heap.size b O.s O.c wz hz.wr)
      clear hz mz hwb
      have hsz : ¬ (65536 : Int) < (O.s.size : Int) := by omega
      have z0 : wz.cell? ⟨w.heap.size, 0, none⟩ = some (.int .i64 p.kind) := BZ.out.cell 0
      obtain ⟨q1, q2⟩ := pk_ok HK.out (by rw [HO.out]; exact HC.out) (by rw [HO.out]; exact hbig)
      rw [HO.out, show 16 * p.kind + pFlags p = p.kind * 16 + (bt1 p.dup 8 + p.q % 4 * 2 + bt1 p.ret 1) from by rw [HFL.out]; omega] at q2
      obtain ⟨fx, hfx⟩ : ∃ x, (⟨(fixS 1 (p.kind * 16 + (bt1 p.dup 8 + p.q % 4 * 2 + bt1 p.ret 1))).toArray⟩ : ByteArray) = x := ⟨_, rfl⟩
      obtain ⟨ex, hex⟩ : ∃ x, (⟨(enc (O.s.size : Int)).toArray⟩ : ByteArray) = x := ⟨_, rfl⟩
      have s1 : ex.size ≤ 4 := by rw [← hex]; have := enc_small O.s.size; show (enc (O.s.size : Int)).toArray.size ≤ 4; simpa using this
      have s2 : fx.size ≤ 1 := by rw [← hfx]; have := fixS_len 1 (p.kind * 16 + (bt1 p.dup 8 + p.q % 4 * 2 + bt1 p.ret 1)); show (fixS 1 (p.kind * 16 + (bt1 p.dup 8 + p.q % 4 * 2 + bt1 p.ret 1))).toArray.size ≤ 1; simpa using this
      have s3 : (fx ++ ex).size ≤ 5 := by rw [ByteArray.size_append]; omega
      have s4 : O.s.size ≤ 65536 := by omega
      have CX := fixed_all 1 (p.kind * 16 + (bt1 p.dup 8 + p.q % 4 * 2 + bt1 p.ret 1)) wz
      rw [hfx] at CX
      have CE : ∀ Y : World, _ := fun Y => put_all (O.s.size : Int) Y
      rw [hex] at CE
      rw [hfx, hex] at q2
      have CX := Lib.hid CX
      have CE := Lib.hid CE
      have Q1 := Lib.hid q1
      have Q2 := Lib.hid q2
      have hfl := HFB.out
      clear q1 q2 hfx hex
      go_wp2_with fail
      (with_reducible refine CL.out.mono ?_)
      rintro e w9 ⟨rfl, rfl⟩
      go_wp2_with fail
      (with_reducible refine CX.out.mono ?_)
      rintro e w10 ⟨rfl, b10⟩
      have H10 := Lib.hid (HZ.out.step b10)
      have CL2 := Lib.hid (wlen_any w.heap.size b O.s O.c w10 H10.out.wr)
      clear b10
      go_wp2_with fail
      (with_reducible refine CL2.out.mono ?_)
      rintro e w11 ⟨rfl, rfl⟩
      go_wp2_with fail
      (with_reducible refine (CE.out _).mono ?_)
      rintro e w12 ⟨rfl, b12⟩
      have H12 := Lib.hid (H10.out.step b12)
      have CS := Lib.hid (wstr_any w.heap.size b O.s O.c w12 H12.out.wr H12.out.below.size)
      clear b12
      go_wp2_with fail
      (with_reducible refine CS.out.mono ?_)
      rintro e w13 ⟨rfl, b13⟩
      go_wp2
      go_ret2
      exact ⟨by rw [Q1.out, Q2.out]; rfl, H12.out.below.trans b13⟩
  · have e0 : (O.c == 0) = false := beq_eq_false_iff_ne.2 hc
    have e1 : (O.c != 0) = true := by rw [bne, e0]; rfl
    have HC := Lib.hid hc
    clear hc
    go_wp2_with (refine wpList_load_row rfl 45 (.tmp 1) rfl w.heap.size rfl 45 (pkA .u8 p m) (0, 0) _ BY.out Tryd.underlying45 rfl pk_size ?_)
    (with_reducible refine CB.out.mono ?_)
    rintro e wz ⟨rfl, hz, mz⟩
    have HZ := Lib.hid hz
    have BZ := Lib.hid (BY.out.modT mz (by unfold wT; decide))
    obtain ⟨vp, vs, hwb⟩ := wr_blk hz.wr
    have z1 : wz.cell? ⟨b, 1 + 1, none⟩ = some (.int .u8 O.c) := hwb.cell 2
    have z2 : wz.cell? ⟨b, 2, none⟩ = some (.int .u8 O.c) := hwb.cell 2
    clear hz mz hwb
    go_wp2_with fail
    go_quiet (fail)
    go_wp2
    go_ret2
    obtain ⟨q1, q2⟩ := pk_code HK.out (by rw [HO.out]; exact HC.out)
    exact ⟨by rw [q1, q2, HO.out]; rfl, ⟨HZ.out.below.os, HZ.out.below.tape, HZ.out.below.output, HZ.out.below.size, HZ.out.below.block⟩⟩
theorem wput_any (p : Pk) (m : Hs) (w : World) (hP : PkIn .u8 w p m) (hT : Tabs w) :
    Calls Tryd.prog 15 #[pkV .u8 p m] w fun e w' => PkPut p w w' e := by
  by_cases hk : p.kind < 1 ∨ 15 < p.kind
  · exact wput_out p m w hk
  · by_cases h3 : p.kind = 3
    · rcases (by cases p.dup <;> simp : p.dup = false ∨ p.dup = true) with hd | hd
      · exact wput_b1 p m w hP hT hk h3 hd
      · by_cases hq : p.q = 0
        · exact wput_b2 p m w hP hT hk h3 hd hq
        · exact wput_b3 p m w hP hT hk h3 hd hq
    · exact wput_c p m w hP hT hk h3
end Go.Proofs.YtedapgeabpadaaaDoor

/- packet.head. -/
set_option linter.unusedVariables false
namespace Go.Proofs.YtedapgeabpadaaaDoor
open Go.RowKit Pl Go.Shelf Go.PlainAid

def zHd : Hd := ⟨none, 0, 0⟩
def zHs : Hs := ⟨zHd, zHd, zHd, zHd, zHd⟩
theorem zpk_eq : pkA .u8 zPk zHs = #[.int .i64 0, .bool false, .bool false, .int .i64 0, .int .i64 0, .string ⟨#[]⟩, .string ⟨#[]⟩, .int .u8 0, .slice none 0 0, .slice none 0 0, .string ⟨#[]⟩, .bool false, .int .i64 0, .bool false, .string ⟨#[]⟩, .string ⟨#[]⟩, .int .i64 0, .bool false, .slice none 0 0, .bool false, .bool false, .string ⟨#[]⟩, .string ⟨#[]⟩, .bool false, .slice none 0 0, .slice none 0 0] := rfl
theorem gpk_size : (Tryd.prog.info? 45).map (·.size) = some 26 := by kernel_rfl
theorem pkA_one (p : Pk) (m : Hs) : (pkA .u8 p m).all (·.oneCell') = true := by simp [pkA]; simp [Value.oneCell']
def HdPost (w : World) (o : Option Pk) (e : Ending) (w' : World) : Prop := match o with
  | none => e = .panicked (flt_ 129) ∧ Below w.heap.size w w'
  | some p => e = .returned (.agg (pkA .u8 p zHs)) ∧ Below w.heap.size w w'
/-- The two variables of head. -/
theorem head_worlds (w : World) (k : Int) (W0 W1 Z : World) (h0 : w.alloc (.cells (pkA .u8 zPk zHs) 45) = W0) (h1 : W0.alloc (.cells (pkA .u8 zPk zHs) 45) = W1) (h2 : W1.setRow (w.heap.size + 1) (pkA .u8 { zPk with kind := k } zHs) = Z) :
    Blk W1 (w.heap.size + 1) (pkA .u8 zPk zHs) 45 ∧ Blk Z (w.heap.size + 1) (pkA .u8 { zPk with kind := k } zHs) 45 ∧ Blk Z w.heap.size (pkA .u8 zPk zHs) 45 ∧ Below w.heap.size w Z ∧ W0.heap.size = w.heap.size + 1 := by
  have b0 := blkAt w (pkA .u8 zPk zHs) 45 rfl
  have s0 : W0.heap.size = w.heap.size + 1 := by rw [← h0]; simp
  rw [h0] at b0
  have b0' := b0.alloc (.cells (pkA .u8 zPk zHs) 45)
  have b1 := blkAt W0 (pkA .u8 zPk zHs) 45 s0.symm
  have bel : Below w.heap.size w _ := ((Below.refl _ _).alloc (Nat.le_refl _) (.cells (pkA .u8 zPk zHs) 45))
  rw [h0] at bel
  have bel1 := bel.alloc (by omega) (.cells (pkA .u8 zPk zHs) 45)
  rw [h1] at b0' b1 bel1
  rw [← h2]
  exact ⟨b1, b1.row0 _, b0'.row1 (by omega) _, below_setRow bel1 (by omega) _, s0⟩
set_option maxHeartbeats 8000000 in
set_option maxRecDepth 100000 in
theorem head_any (b : Int) (w : World) (h0 : 0 ≤ b) (h1 : b < 256) : Calls Tryd.prog 33 #[.int .i64 b] w (HdPost w (hdO b)) := by
  have e15 := nb_15 h0 h1
  have e8 : (bits .and .i64 b 8 != 0) = decide (b / 8 % 2 = 1) := nz_dec (nb_8 h0 h1) (by omega)
  have e1 : (bits .and .i64 b 1 != 0) = decide (b % 2 = 1) := nz_dec (nb_1 h0 h1) (by omega)
  have e3 : bits .and .i64 (b / 2) 3 = b / 2 % 4 := nb_3 (by omega) (by omega)
  unfold hdO
  obtain ⟨k, hk⟩ : ∃ k, b / 16 = k := ⟨_, rfl⟩
  obtain ⟨f, hf⟩ : ∃ f, b % 16 = f := ⟨_, rfl⟩
  obtain ⟨q, hq⟩ : ∃ q, b / 2 % 4 = q := ⟨_, rfl⟩
  obtain ⟨d, hd⟩ : ∃ d : Bool, decide (b / 8 % 2 = 1) = d := ⟨_, rfl⟩
  obtain ⟨r, hr⟩ : ∃ r : Bool, decide (b % 2 = 1) = r := ⟨_, rfl⟩
  have hd0 : (b / 8 % 2 = 0) ↔ d = false := by rw [← hd, decide_eq_false_iff_not]; omega
  rw [hf] at e15
  rw [hq] at e3
  rw [hd] at e8
  rw [hr] at e1
  rw [hk, hf, hq, hd, hr]
  have HQ0 := Lib.hid (show 0 ≤ q ∧ q < 4 from by omega)
  have HD0 := Lib.hid hd0
  clear hf hq hd hr hd0
  obtain ⟨W0, hW0⟩ : ∃ W, w.alloc (.cells (pkA .u8 zPk zHs) 45) = W := ⟨_, rfl⟩
  obtain ⟨W1, hW1⟩ : ∃ W, W0.alloc (.cells (pkA .u8 zPk zHs) 45) = W := ⟨_, rfl⟩
  obtain ⟨Z, hZ⟩ : ∃ Z, W1.setRow (w.heap.size + 1) (pkA .u8 { zPk with kind := k } zHs) = Z := ⟨_, rfl⟩
  obtain ⟨B1, BZ, B0, bel, s0⟩ := head_worlds w k W0 W1 Z hW0 hW1 hZ
  have HB1 := Lib.hid B1; have HBZ := Lib.hid BZ; have HB0 := Lib.hid B0; have HBL := Lib.hid bel; have HZ := Lib.hid hZ
  rw [zpk_eq] at hW0 hW1
  have z0 : Z.cell? ⟨w.heap.size + 1, 0, none⟩ = some (.int .i64 k) := BZ.cell 0
  clear B1 BZ B0 bel hZ
  have CF : ∀ w, Calls Tryd.prog 22 #[.int .i64 k] w fun e w' => e = .returned (.int .i64 (kFlags k)) ∧ w = w' := fun w => kflags_any k w
  have CF := Lib.hid CF
  by_cases hk0 : k = 0
  · rw [if_pos hk0]
    have hk0b : (k != 0) = false := by simp [hk0]
    clear hk0
    go_enter Tryd.func33, Tryd.ntmps33
    go_wp2_with (first | (refine wpList_buildTo rfl 45 _ rfl (some 6) rfl (pkA .u8 { zPk with kind := k } zHs) (by kernel_rfl) ?_) | (refine wpList_store_rowN rfl 45 (.tmp 3) (.tmp 6) rfl rfl (w.heap.size + 1) (pkA .u8 { zPk with kind := k } zHs) rfl rfl 45 (pkA .u8 zPk zHs) HB1.out gpk_size rfl (pkA_one _ _) Z HZ.out ?_) | (go_at_call 34; (with_reducible refine (must_false _).mono ?_); rintro e YM ⟨rfl, rfl⟩) | (fail))
    exact ⟨rfl, rfl, HBL.out⟩
  · rw [if_neg hk0]
    have hk0b : (k != 0) = true := by simp [hk0]
    by_cases hk3 : k = 3
    · rw [if_pos hk3]
      have hk3b : (k != 3) = false := by simp [hk3]
      have hpk : ({ zPk with kind := 3, dup := d, q := q, ret := r } : Pk) = { zPk with kind := k, dup := d, q := q, ret := r } := by rw [hk3]
      rw [hpk]
      clear hpk hk3 hk0
      have z1 : Z.cell? ⟨w.heap.size + 1, 1, none⟩ = some (.bool false) := HBZ.out.cell 1
      have z2 : Z.cell? ⟨w.heap.size + 1, 2, none⟩ = some (.bool false) := HBZ.out.cell 2
      have z3 : Z.cell? ⟨w.heap.size + 1, 3, none⟩ = some (.int .i64 0) := HBZ.out.cell 3
      have zf1 := HBZ.out.frozen 1
      have zf2 := HBZ.out.frozen 2
      have zf3 := HBZ.out.frozen 3
      have hX := ((HBZ.out.set 1 (.bool d)).set 3 (.int .i64 q)).set 2 (.bool r)
      have h0X := ((HB0.out.other (R' := w.heap.size + 1) (by omega) 1 (.bool d)).other (R' := w.heap.size + 1) (by omega) 3 (.int .i64 q)).other (R' := w.heap.size + 1) (by omega) 2 (.bool r)
      have hbX := ((HBL.out.setCell (p := ⟨w.heap.size + 1, 1, none⟩) (by show w.heap.size ≤ w.heap.size + 1; omega) (.bool d)).setCell (p := ⟨w.heap.size + 1, 3, none⟩) (by show w.heap.size ≤ w.heap.size + 1; omega) (.int .i64 q)).setCell (p := ⟨w.heap.size + 1, 2, none⟩) (by show w.heap.size ≤ w.heap.size + 1; omega) (.bool r)
      obtain ⟨X, hXX⟩ : ∃ X, ((Z.setCell ⟨w.heap.size + 1, 1, none⟩ (.bool d)).setCell ⟨w.heap.size + 1, 3, none⟩ (.int .i64 q)).setCell ⟨w.heap.size + 1, 2, none⟩ (.bool r) = X := ⟨_, rfl⟩
      rw [hXX] at hX h0X hbX
      have x1 : X.cell? ⟨w.heap.size + 1, 1, none⟩ = some (.bool d) := hX.cell 1
      have x3 : X.cell? ⟨w.heap.size + 1, 3, none⟩ = some (.int .i64 q) := hX.cell 3
      have HX := Lib.hid (show Blk X (w.heap.size + 1) (pkA .u8 { zPk with kind := k, dup := d, q := q, ret := r } zHs) 45 from hX)
      have H0X := Lib.hid h0X; have HBX := Lib.hid hbX
      clear hX h0X hbX
      by_cases hq3 : q < 3
      · cases d with
        | false =>
          have hc : q < 3 ∧ (b / 8 % 2 = 0 ∨ 0 < q) := ⟨hq3, .inl (HD0.out.2 rfl)⟩
          rw [if_pos hc]
          go_enter Tryd.func33, Tryd.ntmps33
          go_wp2_with (first | (refine wpList_buildTo rfl 45 _ rfl (some 6) rfl (pkA .u8 { zPk with kind := k } zHs) (by kernel_rfl) ?_) | (refine wpList_store_rowN rfl 45 (.tmp 3) (.tmp 6) rfl rfl (w.heap.size + 1) (pkA .u8 { zPk with kind := k } zHs) rfl rfl 45 (pkA .u8 zPk zHs) HB1.out gpk_size rfl (pkA_one _ _) Z HZ.out ?_) | (go_at_call 34; (with_reducible refine (must_true _).mono ?_); rintro e YM ⟨rfl, rfl⟩) | (refine wpList_load_row rfl 45 (.tmp 3) rfl (w.heap.size + 1) rfl 45 (pkA .u8 { zPk with kind := k, dup := false, q := q, ret := r } zHs) (0, 0) _ HX.out Tryd.underlying45 rfl gpk_size ?_) | (refine Go.wpList_store_rowTo rfl 45 (.tmp 2) (.tmp 48) rfl rfl w.heap.size (pkA .u8 { zPk with kind := k, dup := false, q := q, ret := r } zHs) rfl rfl 45 (pkA .u8 zPk zHs) H0X.out gpk_size rfl (pkA_one _ _) ?_) | (fail))
          refine bodyPost_ret (v := .agg (pkA .u8 { zPk with kind := k, dup := false, q := q, ret := r } zHs)) (results_cell_row (p := 2) (ty := 45) (by kernel_rfl) _ _ w.heap.size 45 _ (0, 0) _ rfl (H0X.out.row0 _) Tryd.underlying45 rfl gpk_size) rfl ?_
          exact ⟨rfl, below_setRow HBX.out (Nat.le_refl _) _⟩
        | true =>
          by_cases hq1 : 0 < q
          · rw [if_pos ⟨hq3, .inr hq1⟩]
            go_enter Tryd.func33, Tryd.ntmps33
            go_wp2_with (first | (refine wpList_buildTo rfl 45 _ rfl (some 6) rfl (pkA .u8 { zPk with kind := k } zHs) (by kernel_rfl) ?_) | (refine wpList_store_rowN rfl 45 (.tmp 3) (.tmp 6) rfl rfl (w.heap.size + 1) (pkA .u8 { zPk with kind := k } zHs) rfl rfl 45 (pkA .u8 zPk zHs) HB1.out gpk_size rfl (pkA_one _ _) Z HZ.out ?_) | (go_at_call 34; (with_reducible refine (must_true _).mono ?_); rintro e YM ⟨rfl, rfl⟩) | (refine wpList_load_row rfl 45 (.tmp 3) rfl (w.heap.size + 1) rfl 45 (pkA .u8 { zPk with kind := k, dup := true, q := q, ret := r } zHs) (0, 0) _ HX.out Tryd.underlying45 rfl gpk_size ?_) | (refine Go.wpList_store_rowTo rfl 45 (.tmp 2) (.tmp 48) rfl rfl w.heap.size (pkA .u8 { zPk with kind := k, dup := true, q := q, ret := r } zHs) rfl rfl 45 (pkA .u8 zPk zHs) H0X.out gpk_size rfl (pkA_one _ _) ?_) | (fail))
            refine bodyPost_ret (v := .agg (pkA .u8 { zPk with kind := k, dup := true, q := q, ret := r } zHs)) (results_cell_row (p := 2) (ty := 45) (by kernel_rfl) _ _ w.heap.size 45 _ (0, 0) _ rfl (H0X.out.row0 _) Tryd.underlying45 rfl gpk_size) rfl ?_
            exact ⟨rfl, below_setRow HBX.out (Nat.le_refl _) _⟩
          · rw [if_neg (fun c => by rcases c.2 with c | c; exact absurd (HD0.out.1 c) (by decide); exact hq1 c)]
            have hq1d : decide (0 < q) = false := decide_eq_false hq1
            go_enter Tryd.func33, Tryd.ntmps33
            go_wp2_with (first | (refine wpList_buildTo rfl 45 _ rfl (some 6) rfl (pkA .u8 { zPk with kind := k } zHs) (by kernel_rfl) ?_) | (refine wpList_store_rowN rfl 45 (.tmp 3) (.tmp 6) rfl rfl (w.heap.size + 1) (pkA .u8 { zPk with kind := k } zHs) rfl rfl 45 (pkA .u8 zPk zHs) HB1.out gpk_size rfl (pkA_one _ _) Z HZ.out ?_) | (go_at_call 34; (with_reducible refine (must_true _).mono ?_); rintro e YM ⟨rfl, rfl⟩) | (fail))
            (with_reducible refine (must_false _).mono ?_)
            rintro e YM ⟨rfl, rfl⟩
            exact ⟨rfl, rfl, HBX.out⟩
      · rw [if_neg (fun c => hq3 c.1)]
        have hq3d : decide (q < 3) = false := decide_eq_false hq3
        go_enter Tryd.func33, Tryd.ntmps33
        go_wp2_with (first | (refine wpList_buildTo rfl 45 _ rfl (some 6) rfl (pkA .u8 { zPk with kind := k } zHs) (by kernel_rfl) ?_) | (refine wpList_store_rowN rfl 45 (.tmp 3) (.tmp 6) rfl rfl (w.heap.size + 1) (pkA .u8 { zPk with kind := k } zHs) rfl rfl 45 (pkA .u8 zPk zHs) HB1.out gpk_size rfl (pkA_one _ _) Z HZ.out ?_) | (go_at_call 34; (with_reducible refine (must_true _).mono ?_); rintro e YM ⟨rfl, rfl⟩) | (fail))
        (with_reducible refine (must_false _).mono ?_)
        rintro e YM ⟨rfl, rfl⟩
        exact ⟨rfl, rfl, HBX.out⟩
    · rw [if_neg hk3]
      have hk3b : (k != 3) = true := by simp [hk3]
      by_cases hff : f = kFlags k
      · rw [if_pos hff]
        have hfb : (f == kFlags k) = true := by simp [hff]
        clear hff
        go_enter Tryd.func33, Tryd.ntmps33
        go_wp2_with (first | (refine wpList_buildTo rfl 45 _ rfl (some 6) rfl (pkA .u8 { zPk with kind := k } zHs) (by kernel_rfl) ?_) | (refine wpList_store_rowN rfl 45 (.tmp 3) (.tmp 6) rfl rfl (w.heap.size + 1) (pkA .u8 { zPk with kind := k } zHs) rfl rfl 45 (pkA .u8 zPk zHs) HB1.out gpk_size rfl (pkA_one _ _) Z HZ.out ?_) | (go_at_call 34; (with_reducible refine (must_true _).mono ?_); rintro e YM ⟨rfl, rfl⟩) | (go_at_call 22; (with_reducible refine (CF.out _).mono ?_); rintro e YF ⟨rfl, rfl⟩) | (refine wpList_load_row rfl 45 (.tmp 3) rfl (w.heap.size + 1) rfl 45 (pkA .u8 { zPk with kind := k } zHs) (0, 0) _ HBZ.out Tryd.underlying45 rfl gpk_size ?_) | (refine Go.wpList_store_rowTo rfl 45 (.tmp 2) (.tmp 21) rfl rfl w.heap.size (pkA .u8 { zPk with kind := k } zHs) rfl rfl 45 (pkA .u8 zPk zHs) HB0.out gpk_size rfl (pkA_one _ _) ?_) | (fail))
        refine bodyPost_ret (v := .agg (pkA .u8 { zPk with kind := k } zHs)) (results_cell_row (p := 2) (ty := 45) (by kernel_rfl) _ _ w.heap.size 45 _ (0, 0) _ rfl (HB0.out.row0 _) Tryd.underlying45 rfl gpk_size) rfl ?_
        exact ⟨rfl, below_setRow HBL.out (Nat.le_refl _) _⟩
      · rw [if_neg hff]
        have hfb : (f == kFlags k) = false := by rw [beq_eq_false_iff_ne]; exact hff
        clear hff
        go_enter Tryd.func33, Tryd.ntmps33
        go_wp2_with (first | (refine wpList_buildTo rfl 45 _ rfl (some 6) rfl (pkA .u8 { zPk with kind := k } zHs) (by kernel_rfl) ?_) | (refine wpList_store_rowN rfl 45 (.tmp 3) (.tmp 6) rfl rfl (w.heap.size + 1) (pkA .u8 { zPk with kind := k } zHs) rfl rfl 45 (pkA .u8 zPk zHs) HB1.out gpk_size rfl (pkA_one _ _) Z HZ.out ?_) | (go_at_call 34; (with_reducible refine (must_true _).mono ?_); rintro e YM ⟨rfl, rfl⟩) | (go_at_call 22; (with_reducible refine (CF.out _).mono ?_); rintro e YF ⟨rfl, rfl⟩) | (fail))
        (with_reducible refine (must_false _).mono ?_)
        rintro e YM ⟨rfl, rfl⟩
        exact ⟨rfl, rfl, HBL.out⟩
end Go.Proofs.YtedapgeabpadaaaDoor

/- packet.Get: what it defers. -/
set_option linter.unusedVariables false
set_option linter.unusedSimpArgs false
namespace Go.Proofs.YtedapgeabpadaaaDoor
open Go.RowKit Pl Go.Shelf Go.PlainAid

theorem ta_nil (w : World) : (Instr.typeAssert Value.nilIface 20 104 true).run Tryd.prog w = .ok (.tuple #[.int .u8 0, .bool false]) w := by kernel_rfl
theorem ta_fault (c : Int) (w : World) : (Instr.typeAssert (.iface 104 (.int .u8 c)) 20 104 true).run Tryd.prog w = .ok (.tuple #[.int .u8 c, .bool true]) w := by kernel_rfl
set_option maxRecDepth 100000 in
set_option maxHeartbeats 4000000 in
theorem catch_idle (gp gq : Nat) (w : World) :
    CallsD Tryd.prog 32 #[.pointer (some ⟨gp, 0, none⟩), .pointer (some ⟨gq, 0, none⟩)] .returning w fun e u' w' => e = .returned (.tuple #[]) ∧ u' = .returning ∧ w' = w := by
  have hta := ta_nil w
  refine callsD_of_wpS Tryd.func32 rfl fun c₀ cs hu => ?_
  apply wpS_seq
  apply wpS_region
  simp [wpOpsS, go_sem, recoverD, hu, Tryd.ntmps32, Exit.thenS, hta]
  apply wpS_seq
  apply wpS_region
  simp [wpOpsS, go_sem, Exit.thenS]
  refine wpS_cond (t := false) (by simp [Act.eval, Array.replicate]) ?_
  simp only [Bool.false_eq_true, if_false]
  refine wpS_of_wp (wp_skip ?_)
  cases c₀
  simp_all [bodyPostS, results, Tryd.results32]
end Go.Proofs.YtedapgeabpadaaaDoor

/- packet.Get: what it defers. -/
set_option linter.unusedVariables false
set_option linter.unusedSimpArgs false
namespace Go.Proofs.YtedapgeabpadaaaDoor
open Go.RowKit Pl Go.Shelf Go.PlainAid

theorem tm_ten (a b x0 x1 x2 x3 x4 x5 x6 x7 : Value) : #[a, b] ++ ((((((((Array.replicate 10 undef).setIfInBounds 3 x3).setIfInBounds 4 x4).setIfInBounds 2 x2).setIfInBounds 5 x5).setIfInBounds 6 x6).setIfInBounds 0 x0).setIfInBounds 1 x1).setIfInBounds 7 x7 = #[a, b, x0, x1, x2, x3, x4, x5, x6, x7, undef, undef] := by kernel_rfl
set_option maxRecDepth 100000 in
set_option maxHeartbeats 1000000 in
theorem catch_fault (gp gq : Nat) (c x : Int) (cs0 : Array Value) (w : World) (hp : Blk w gp cs0 45) (hn : cs0.size = 26) (hq : w.cell? ⟨gq, 0, none⟩ = some (.int .u8 x)) (hz : w.frozen? ⟨gq, 0, none⟩ = false) (hne : gq ≠ gp) :
    CallsD Tryd.prog 32 #[.pointer (some ⟨gp, 0, none⟩), .pointer (some ⟨gq, 0, none⟩)] (.panicking (flt_ c)) w fun e u' w' =>
      e = .returned (.tuple #[]) ∧ u' = .panicking [{ v := .iface 104 (.int .u8 c), recovered := true }] ∧ w' = (w.setRow gp (pkA .u8 zPk zHs)).setCell ⟨gq, 0, none⟩ (.int .u8 c) := by
  have hta := ta_fault c w
  have HP := Lib.hid hp
  have HN := Lib.hid hn
  have q1' : (w.setRow gp (pkA .u8 zPk zHs)).cell? ⟨gq, 0, none⟩ = some (.int .u8 x) := (cell_setRow_other _ _ _ _ hne).trans hq
  have q2 : (w.setRow gp (pkA .u8 zPk zHs)).frozen? ⟨gq, 0, none⟩ = false := by
    rw [← hz]
    unfold World.frozen?
    simp only [setRow_other w gp gq _ hne]
  have Q1 := Lib.hid q1'
  have Q2 := Lib.hid q2
  clear hp hn hq hz q1' q2
  refine callsD_of_wpS Tryd.func32 rfl fun c₀ cs hu => ?_
  apply wpS_seq
  apply wpS_region
  simp [wpOpsS, go_sem, recoverD, hu, flt_, Tryd.ntmps32, Exit.thenS, hta]
  apply wpS_seq
  apply wpS_region
  simp [wpOpsS, go_sem, Exit.thenS]
  refine wpS_cond (t := true) (by simp [Act.eval, Array.replicate]) ?_
  simp only [if_true]
  rw [tm_ten]
  obtain ⟨Z, hZ⟩ : ∃ Z, w.setRow gp (pkA .u8 zPk zHs) = Z := ⟨_, rfl⟩
  have q1 := Q1.out
  have q2 := Q2.out
  rw [hZ] at q1 q2 ⊢
  have HZ := Lib.hid hZ
  clear hZ Q1 Q2 hta
  refine wpS_of_wp ?_
  go_wp2_with (first | (refine wpList_buildTo rfl 45 _ rfl (some 10) rfl (pkA .u8 zPk zHs) (by kernel_rfl) ?_) | (refine wpList_store_rowN rfl 45 (.tmp 0) (.tmp 10) rfl rfl gp (pkA .u8 zPk zHs) rfl rfl 45 cs0 HP.out gpk_size HN.out (pkA_one _ _) Z HZ.out ?_) | (fail))
  cases c₀
  simp_all [bodyPostS, results, Tryd.results32]
end Go.Proofs.YtedapgeabpadaaaDoor
