/- Parts of the proof, joined: Gw0, Build, Wr, Wr2, Kind, PropW0, PropF, PutV. -/
import Derived.Test.YtedapgeabpadaaaDoorH6P3
import Derived.Test.YtedapgeabpadaaaDoorH6P2
import Derived.Deep.RegionHeld3
import Derived.Shelf.Strings.BuilderX
import Derived.Lib.Strings
import Derived.Lib.Slices
import Derived.Lib.Walk
import Derived.Lib.Builder
import Derived.Lib.AppendStr
import Derived.Lib.UnsafeStr
import Derived.Lib.MakeNoZero
import Derived.WalkKit
import Derived.Laws.Externs
import Derived.Laws.IdiomCopy
import Derived.Laws.BitsLemmas
import Derived.Test.YtedapgeabpadaaaDoorProg
import Derived.Test.YtedapgeabpadaaaDoorH6P1
import Derived.Lib.Hide
import Derived.Test.YtedapgeabpadaaaDoorRows
import Derived.WalkLawsBesides
import Derived.WalkSpells
import Derived.Handy
import Derived.Deep.AppendLies
import Derived.Shelf.Abstract
/- A packet's reader walked: fail, must, left, number, text, data, id. -/
set_option linter.unusedVariables false
namespace Go.Proofs.YtedapgeabpadaaaDoor
open Go.RowKit Pl

def flt_ (c : Int) : List PanicEntry := [{ v := .iface 104 (.int .u8 c), recovered := false }]
/-- A reader's cells. -/
def rdrA (s : ByteArray) (a : Int) : Array Value := #[.string s, .int .i64 a]
/-- What a reader's method leaves. -/
def RrPost {α : Type} (R : Nat) (s : ByteArray) (V : α → Value → World → Prop) (w : World) (r : RR α) (e : Ending) (w' : World) : Prop :=
  match r with
  | .ok (v, a) => ∃ u, e = .returned u ∧ V v u w' ∧ Blk w' R (rdrA s a) 110 ∧ Mod (· = R) w w'
  | .error c => e = .panicked (flt_ c) ∧ Mod (· = R) w w'
theorem fail_any (c : Int) (w : World) : Calls Tryd.prog 49 #[.int .u8 c] w fun e w' => e = .panicked (flt_ c) ∧ w' = w := by
  go_enter Tryd.func49, Tryd.ntmps49
  go_wp2
  exact ⟨rfl, rfl, rfl⟩
theorem must_true (w : World) : Calls Tryd.prog 34 #[.bool true] w fun e w' => e = .returned (.tuple #[]) ∧ w' = w := by
  go_enter Tryd.func34, Tryd.ntmps34
  go_wp2
  go_end0
  exact ⟨rfl, rfl⟩
theorem must_false (w : World) : Calls Tryd.prog 34 #[.bool false] w fun e w' => e = .panicked (flt_ 129) ∧ w' = w := by
  go_enter Tryd.func34, Tryd.ntmps34
  go_wp2_with fail
  (with_reducible refine (fail_any _ _).mono ?_)
  rintro e w' ⟨rfl, rfl⟩
  exact ⟨rfl, rfl, rfl⟩
abbrev S2p (X : World) (R : Nat) (s : ByteArray) (a : Int) : Prop := X.cell? ⟨R, 0, none⟩ = some (.string s) ∧ X.cell? ⟨R, 1, none⟩ = some (.int .i64 a)
theorem s2p_blw {X Y : World} {R : Nat} {s : ByteArray} {a : Int} (h : S2p X R s a) (hR : R < X.heap.size) (hb : Below X.heap.size X Y) : S2p Y R s a :=
  ⟨(hb.cell (p := ⟨R, 0, none⟩) hR).trans h.1, (hb.cell (p := ⟨R, 1, none⟩) hR).trans h.2⟩
theorem left_any (R : Nat) (s : ByteArray) (a : Int) (w : World) (hR : Blk w R (rdrA s a) 110) :
    Calls Tryd.prog 57 #[.pointer (some ⟨R, 0, none⟩)] w fun e w' => e = .returned (.bool (decide (a < s.size))) ∧ Below w.heap.size w w' ∧ w'.heap = w.heap := by
  have h0 := hR.cell 0
  have h1 := hR.cell 1
  simp only [rdrA, List.getElem?_toArray, List.getElem?_cons_zero, List.getElem?_cons_succ] at h0 h1
  clear hR
  go_enter Tryd.func57, Tryd.ntmps57
  go_wp2_with fail
  go_quiet (fail)
  go_wp2
  go_ret
  exact ⟨rfl, ⟨rfl, rfl, rfl, Nat.le_refl _, fun _ _ => rfl⟩, rfl⟩
set_option maxHeartbeats 1000000 in
theorem rnum_any (R : Nat) (s : ByteArray) (a k : Int) (w : World) (hR : Blk w R (rdrA s a) 110) (hs : s.size ≤ 140737488351232) (h0 : 0 ≤ a) (h1 : a ≤ s.size) :
    Calls Tryd.prog 51 #[.pointer (some ⟨R, 0, none⟩), .int .i64 k] w (RrPost R s (fun n u _ => u = .int .i64 n) w (rNum s k a)) := by
  have c0 := hR.cell 0
  have c1 := hR.cell 1
  have f1 := hR.frozen 1
  have hl := hR.lt
  simp only [rdrA, List.getElem?_toArray, List.getElem?_cons_zero, List.getElem?_cons_succ] at c0 c1
  have hs0 : S2p w R s a := ⟨c0, c1⟩
  have hsd : S2p w.drew R s a := hs0
  have HB := Lib.hid (show Blk w.drew R (rdrA s a) 110 from hR)
  have CF := Lib.hid (getfixed_all s a k w.drew hs (by omega) (by omega))
  unfold rNum
  obtain ⟨⟨n, tu, c⟩, hg⟩ : ∃ g, getF s a k = g := ⟨_, rfl⟩
  rw [hg] at CF ⊢
  simp only at CF ⊢
  clear hg hR c0 c1 h0 h1 hs
  by_cases hc : c = 0
  · subst hc
    rw [if_pos rfl]
    go_enter Tryd.func51, Tryd.ntmps51
    go_wp2_with fail
    go_region_held3 (fun X => S2p X R s a) (first | (with_reducible assumption) | exact hs0 | exact hsd) (first | (go_at_call 79; refine CF.out.mono ?_; rintro e w1 ⟨rfl, rfl⟩) | (fail))
    all_goals
      obtain ⟨y0, y1⟩ := hsd
      have k1 := HB.out.frozen 1
      go_wp2_with (first | (go_at_call 34; (with_reducible refine (must_true _).mono ?_); rintro e w2 ⟨rfl, rfl⟩) | (fail))
      go_ret
      exact ⟨_, rfl, rfl, HB.out.set 1 _, ((Mod.refl (· = R) w).drew).setCell (.inl rfl) _⟩
  · have e0 : (c == 0) = false := by rw [beq_eq_false_iff_ne]; exact hc
    rw [if_neg hc]
    go_enter Tryd.func51, Tryd.ntmps51
    go_wp2_with fail
    go_region_held3 (fun X => S2p X R s a) (first | (with_reducible assumption) | exact hs0 | exact hsd) (first | (go_at_call 79; refine CF.out.mono ?_; rintro e w1 ⟨rfl, rfl⟩) | (fail))
    all_goals
      go_wp2_with (first | (go_at_call 34; (with_reducible refine (must_false _).mono ?_); rintro e w2 ⟨rfl, rfl⟩) | (fail))
      exact ⟨rfl, rfl, (Mod.refl (· = R) w).drew⟩
-- text, data (gen_gw0.py)
set_option maxHeartbeats 1000000 in
theorem rtext_any (R : Nat) (s : ByteArray) (a : Int) (w : World) (hR : Blk w R (rdrA s a) 110) (hs : s.size ≤ 140737488351232) (h0 : 0 ≤ a) (h1 : a ≤ s.size) (hT : Tabs w.drew) :
    Calls Tryd.prog 53 #[.pointer (some ⟨R, 0, none⟩)] w (RrPost R s (fun t u _ => u = .string t) w (rText s a)) := by
  have c0 := hR.cell 0
  have c1 := hR.cell 1
  have hl := hR.lt
  simp only [rdrA, List.getElem?_toArray, List.getElem?_cons_zero, List.getElem?_cons_succ] at c0 c1
  have hs0 : S2p w R s a := ⟨c0, c1⟩
  have hsd : S2p w.drew R s a := hs0
  have hld : R < w.drew.heap.size := hl
  have HB := Lib.hid (show Blk w.drew R (rdrA s a) 110 from hR)
  have CF := Lib.hid (tget_any s a w.drew hs (by omega) (by omega) hT)
  unfold rText
  obtain ⟨⟨n, tu, c⟩, hg⟩ : ∃ g, tget s a = g := ⟨_, rfl⟩
  rw [hg] at CF ⊢
  simp only at CF ⊢
  clear hg hR c0 c1 h0 h1 hs
  by_cases hc : c = 0
  · subst hc
    rw [if_pos rfl]
    go_enter Tryd.func53, Tryd.ntmps53
    go_wp2_with fail
    go_region_held3 (fun X => S2p X R s a) (first | (with_reducible assumption) | exact hs0 | exact hsd | exact y) (first | (go_at_call 82; refine CF.out.mono ?_; rintro e w1 ⟨rfl, b1⟩; have y : S2p w1 R s a := s2p_blw hsd hld b1) | (fail))
    all_goals
      obtain ⟨y0, y1⟩ := y
      have HB1 := Lib.hid (HB.out.of_below b1)
      have k1 := HB1.out.frozen 1
      have hm := Lib.hid (((Mod.refl (· = R) w).drew).add b1)
      clear b1
      go_wp2_with (first | (go_at_call 34; (with_reducible refine (must_true _).mono ?_); rintro e w2 ⟨rfl, rfl⟩) | (fail))
      go_ret
      exact ⟨_, rfl, rfl, HB1.out.set 1 _, hm.out.setCell (.inl rfl) _⟩
  · have e0 : (c == 0) = false := by rw [beq_eq_false_iff_ne]; exact hc
    rw [if_neg hc]
    go_enter Tryd.func53, Tryd.ntmps53
    go_wp2_with fail
    go_region_held3 (fun X => S2p X R s a) (first | (with_reducible assumption) | exact hs0 | exact hsd | exact y) (first | (go_at_call 82; refine CF.out.mono ?_; rintro e w1 ⟨rfl, b1⟩; have y : S2p w1 R s a := s2p_blw hsd hld b1) | (fail))
    all_goals
      have hm := Lib.hid (((Mod.refl (· = R) w).drew).add b1)
      clear b1
      go_wp2_with (first | (go_at_call 34; (with_reducible refine (must_false _).mono ?_); rintro e w2 ⟨rfl, rfl⟩) | (fail))
      exact ⟨rfl, rfl, hm.out⟩
set_option maxHeartbeats 1000000 in
theorem rdata_any (R : Nat) (s : ByteArray) (a : Int) (w : World) (hR : Blk w R (rdrA s a) 110) (hs : s.size ≤ 140737488351232) (h0 : 0 ≤ a) (h1 : a ≤ s.size) :
    Calls Tryd.prog 78 #[.pointer (some ⟨R, 0, none⟩)] w (RrPost R s (fun t u _ => u = .string t) w (rData s a)) := by
  have c0 := hR.cell 0
  have c1 := hR.cell 1
  have hl := hR.lt
  simp only [rdrA, List.getElem?_toArray, List.getElem?_cons_zero, List.getElem?_cons_succ] at c0 c1
  have hs0 : S2p w R s a := ⟨c0, c1⟩
  have hsd : S2p w.drew R s a := hs0
  have hld : R < w.drew.heap.size := hl
  have HB := Lib.hid (show Blk w.drew R (rdrA s a) 110 from hR)
  have CF := Lib.hid (getdata_all s a w.drew hs (by omega) (by omega))
  unfold rData
  obtain ⟨⟨n, tu, c⟩, hg⟩ : ∃ g, getD s a = g := ⟨_, rfl⟩
  rw [hg] at CF ⊢
  simp only at CF ⊢
  clear hg hR c0 c1 h0 h1 hs
  by_cases hc : c = 0
  · subst hc
    rw [if_pos rfl]
    go_enter Tryd.func78, Tryd.ntmps78
    go_wp2_with fail
    go_region_held3 (fun X => S2p X R s a) (first | (with_reducible assumption) | exact hs0 | exact hsd) (first | (go_at_call 98; refine CF.out.mono ?_; rintro e w1 ⟨rfl, rfl⟩) | (fail))
    all_goals
      have b1 : Below w.drew.heap.size w.drew w.drew := Below.refl _ _
      obtain ⟨y0, y1⟩ := hsd
      have HB1 := Lib.hid (HB.out.of_below b1)
      have k1 := HB1.out.frozen 1
      have hm := Lib.hid (((Mod.refl (· = R) w).drew).add b1)
      clear b1
      go_wp2_with (first | (go_at_call 34; (with_reducible refine (must_true _).mono ?_); rintro e w2 ⟨rfl, rfl⟩) | (fail))
      go_ret
      exact ⟨_, rfl, rfl, HB1.out.set 1 _, hm.out.setCell (.inl rfl) _⟩
  · have e0 : (c == 0) = false := by rw [beq_eq_false_iff_ne]; exact hc
    rw [if_neg hc]
    go_enter Tryd.func78, Tryd.ntmps78
    go_wp2_with fail
    go_region_held3 (fun X => S2p X R s a) (first | (with_reducible assumption) | exact hs0 | exact hsd) (first | (go_at_call 98; refine CF.out.mono ?_; rintro e w1 ⟨rfl, rfl⟩) | (fail))
    all_goals
      have b1 : Below w.drew.heap.size w.drew w.drew := Below.refl _ _
      have hm := Lib.hid (((Mod.refl (· = R) w).drew).add b1)
      clear b1
      go_wp2_with (first | (go_at_call 34; (with_reducible refine (must_false _).mono ?_); rintro e w2 ⟨rfl, rfl⟩) | (fail))
      exact ⟨rfl, rfl, hm.out⟩
theorem rid_any (R : Nat) (s : ByteArray) (a : Int) (w : World) (hR : Blk w R (rdrA s a) 110) (hs : s.size ≤ 140737488351232) (h0 : 0 ≤ a) (h1 : a ≤ s.size) :
    Calls Tryd.prog 54 #[.pointer (some ⟨R, 0, none⟩)] w (RrPost R s (fun n u _ => u = .int .i64 n) w (rId s a)) := by
  have C := Lib.hid (rnum_any R s a 2 w hR hs h0 h1)
  unfold rId
  obtain ⟨r, hr⟩ : ∃ r, rNum s 2 a = r := ⟨_, rfl⟩
  rw [hr] at C ⊢
  clear hR hs h0 h1 hr
  cases r with
  | error c =>
    show Calls _ _ _ _ (RrPost R s (fun n u _ => u = Value.int .i64 n) w (Except.error c : RR Int))
    go_enter Tryd.func54, Tryd.ntmps54
    go_wp2_with fail
    (with_reducible refine C.out.mono ?_)
    rintro e w1 ⟨rfl, hm⟩
    exact ⟨rfl, rfl, hm⟩
  | ok v =>
    obtain ⟨n, b⟩ := v
    show Calls _ _ _ _ (RrPost R s (fun n u _ => u = Value.int .i64 n) w (if n = 0 then (Except.error 130 : RR Int) else .ok (n, b)))
    by_cases hn : n = 0
    · subst hn
      rw [if_pos rfl]
      go_enter Tryd.func54, Tryd.ntmps54
      go_wp2_with fail
      (with_reducible refine C.out.mono ?_)
      rintro e w1 ⟨u, rfl, rfl, hb, hm⟩
      have HM := Lib.hid hm
      clear hm
      go_wp2_with fail
      (with_reducible refine (fail_any _ _).mono ?_)
      rintro e w2 ⟨rfl, rfl⟩
      exact ⟨rfl, rfl, HM.out⟩
    · have hn2 : (n == 0) = false := by rw [beq_eq_false_iff_ne]; exact hn
      rw [if_neg hn]
      go_enter Tryd.func54, Tryd.ntmps54
      go_wp2_with fail
      (with_reducible refine C.out.mono ?_)
      rintro e w1 ⟨u, rfl, rfl, hb, hm⟩
      have HM := Lib.hid hm
      have HB := Lib.hid hb
      clear hm hb
      go_wp2
      go_ret
      exact ⟨_, rfl, rfl, HB.out, HM.out⟩
end Go.Proofs.YtedapgeabpadaaaDoor

/- strings.Builder's writing at this dump: copyCheck, WriteString (the library's own walks, turned tu this dump). -/
set_option linter.unusedVariables false
namespace Go.Proofs.YtedapgeabpadaaaDoor
open Go.Shelf Go.RowKit

theorem b_size : (Tryd.prog.info? 92).map (·.size) = some 2 := by kernel_rfl
theorem b_lies : liesAt Tryd.prog Tryd.prog.depth 92 (2 / Tryd.prog.cellsOf 92) 0 92 1 = true := by kernel_rfl
theorem b_byte : (Tryd.prog.info? 5).map (fun i => (i.zero, i.size, i.bytes)) = some (some (.int .u8 0), 1, 1) := by kernel_rfl
set_option maxHeartbeats 1000000 in
set_option maxRecDepth 100000 in
theorem cc_used (b : Nat) (w : World) (h0 : w.cell? ⟨b, 0, none⟩ = some (.pointer (some ⟨b, 0, none⟩))) :
    Calls Tryd.prog 109 #[.pointer (some ⟨b, 0, none⟩)] w fun e w' => e = .returned (.tuple #[]) ∧ w' = w := by
  obtain ⟨j, hj, _⟩ := Option.map_eq_some_iff.1 b_size
  go_enter Tryd.func109, Tryd.ntmps109
  go_wp2
  rw [Lib.run_neq_ptr_same w _ Tryd.underlying90 hj]
  go_wp2
  go_end0
  exact ⟨rfl, rfl⟩
set_option maxHeartbeats 1000000 in
set_option maxRecDepth 100000 in
theorem cc_fresh (b : Nat) (w : World) (h0 : w.cell? ⟨b, 0, none⟩ = some (.pointer none)) (hsh : w.shape? b = some (92, 2)) (hfz : w.frozen? ⟨b, 0, none⟩ = false) :
    Calls Tryd.prog 109 #[.pointer (some ⟨b, 0, none⟩)] w fun e w' => e = .returned (.tuple #[]) ∧ w' = w.setCell ⟨b, 0, none⟩ (.pointer (some ⟨b, 0, none⟩)) := by
  obtain ⟨j, hj, hjs⟩ := Option.map_eq_some_iff.1 b_size
  go_enter Tryd.func109, Tryd.ntmps109
  go_wp2
  rw [Lib.run_to_unsafe w ⟨b, 0, none⟩ Tryd.underlying90 Tryd.underlying188 hj (by rw [hjs]; decide) hsh (Nat.zero_lt_succ 1)]
  simp only [Result.andThen]
  rw [Oper.upon_value]
  go_wp2
  rw [run_callFunc_extern Tryd.func120 (by kernel_rfl) (by kernel_rfl) (by kernel_rfl) (e := Extern.AbiNoEscape.same) (by kernel_rfl)]
  rw [Lib.run_noEscape]
  simp only [Result.andThen]
  rw [Oper.upon_value]
  go_wp2
  rw [Lib.run_from_unsafe w ⟨b, 0, none⟩ Tryd.underlying188 Tryd.underlying90 hj hsh b_lies]
  simp only [Result.andThen]
  rw [Oper.upon_value]
  go_wp2
  go_end0
  exact ⟨rfl, rfl⟩
theorem cc_any (B b : Nat) (bs : List Value) (w : World) (h : Lib.IsBuilder 92 5 B b bs w) :
    Calls Tryd.prog 109 #[.pointer (some ⟨b, 0, none⟩)] w fun e w' => e = .returned (.tuple #[]) ∧ (Lib.BuilderAt 92 5 B b (.pointer (some ⟨b, 0, none⟩)) bs w' ∧ Below B w w') := by
  rcases h with h | h
  · refine (cc_fresh b w h.cell0 h.shape h.frozen0).mono ?_
    rintro e w' ⟨rfl, rfl⟩
    exact ⟨rfl, h.used _, (Below.refl B w).setCell (p := ⟨b, 0, none⟩) h.1 _⟩
  · refine (cc_used b w h.cell0).mono ?_
    rintro e w' ⟨rfl, rfl⟩
    exact ⟨rfl, h, Below.refl B _⟩
set_option maxHeartbeats 2000000 in
set_option maxRecDepth 100000 in
/-- (*strings.Builder).WriteString. -/
theorem ws_any (B b : Nat) (bs : List Value) (s : ByteArray) (w : World) (h : Lib.IsBuilder 92 5 B b bs w) (hlen : bs.length + s.size ≤ 140737488355328) (hBw : B ≤ w.heap.size) :
    Calls Tryd.prog 92 #[.pointer (some ⟨b, 0, none⟩), .string s] w fun e w' => e = .returned (.tuple #[.int .i64 s.size, .nilIface]) ∧ (Lib.BuilderAt 92 5 B b (.pointer (some ⟨b, 0, none⟩)) (bs ++ Lib.strCells s) w' ∧ Below B w w') := by
  obtain ⟨i0, hi, hz0, hz1, hz2⟩ := info_parts b_byte
  go_enter Tryd.func92, Tryd.ntmps92
  go_wp2_with (go_at_call 109; refine (cc_any B b bs _ h).mono ?_)
  rintro e w1 ⟨rfl, h1, hb1⟩
  obtain ⟨hB, v, hbk, hown, hne⟩ := h1
  have c0 : w1.cell? ⟨b, 0, none⟩ = some (.pointer (some ⟨b, 0, none⟩)) := by rw [Lib.cell_of_heap hbk]; rfl
  have c1 : w1.cell? ⟨b, 1, none⟩ = some v := by rw [Lib.cell_of_heap hbk]; rfl
  go_wp2_with (at_builtin; refine Lib.wpList_append_own_string _ rfl _ _ 59 9 rfl B 5 i0 Tryd.underlying59 Tryd.underlying9 hi hz0 hz1 hz2 _ _ _ rfl hown s rfl ?c3 ?c4 ?c5 ?_)
  case c3 => unfold maxLen; omega
  case c4 => omega
  case c5 => have := hb1.size; omega
  intro v' w2 hown' hgrow _
  have hlt : b < w1.heap.size := by
    rcases Nat.lt_or_ge b w1.heap.size with h' | h'
    · exact h'
    · simp [Array.getElem?_eq_none h'] at hbk
  have hb2 : w2.heap[b]? = some (.cells #[.pointer (some ⟨b, 0, none⟩), v] 92 (0, 0)) := by
    rw [hgrow.block b hlt (fun e => hne e.symm)]
    exact hbk
  have d0 : w2.cell? ⟨b, 0, none⟩ = some (.pointer (some ⟨b, 0, none⟩)) := by rw [Lib.cell_of_heap hb2]; rfl
  have d1 : w2.cell? ⟨b, 1, none⟩ = some v := by rw [Lib.cell_of_heap hb2]; rfl
  have f1 : w2.frozen? ⟨b, 1, none⟩ = false := Lib.frozen_of_heap hb2 1
  obtain ⟨ao, n', cap, rfl⟩ : ∃ ao n' cap, v' = .slice ao n' cap := by
    rcases hown'.2 with ⟨hv, _⟩ | ⟨g, cap, cur, hv, _⟩
    · exact ⟨_, _, _, hv⟩
    · exact ⟨_, _, _, hv⟩
  go_wp2
  go_ret2
  refine ⟨rfl, ?_, ?_⟩
  · exact Lib.BuilderAt.put (T := 92) (e := 5) hB hb2 (bs' := bs ++ Lib.strCells s) (by simpa [Lib.strCells_length] using hown') (by decide)
  · exact (hb1.grown hgrow (by have := hb1.size; omega) (fun k hk => (hown.lt k hk).1)).setCell (p := ⟨b, 1, none⟩) hB _
end Go.Proofs.YtedapgeabpadaaaDoor

/- A packet's writer: a strings.Builder in a struct; its writing. -/
set_option linter.unusedVariables false
namespace Go.Proofs.YtedapgeabpadaaaDoor
open Go.Shelf Go.RowKit

/-- Of what was there, blocks of these types alone have turned. -/
structure ModT (T : TypeId → Prop) (w w' : World) : Prop where
  os : w'.os = w.os
  tape : w'.tape = w.tape
  output : w'.output = w.output
  size : w.heap.size ≤ w'.heap.size
  block : ∀ (k : Nat) (cs : Array Value) (t : TypeId) (fz : Nat × Nat), w.heap[k]? = some (Obj.cells cs t fz) → ¬ T t → w'.heap[k]? = some (Obj.cells cs t fz)
theorem ModT.refl (T : TypeId → Prop) (w : World) : ModT T w w := ⟨rfl, rfl, rfl, Nat.le_refl _, fun _ _ _ _ h _ => h⟩
theorem ModT.trans {T : TypeId → Prop} {a b c : World} (h : ModT T a b) (k : ModT T b c) : ModT T a c :=
  ⟨k.os.trans h.os, k.tape.trans h.tape, k.output.trans h.output, Nat.le_trans h.size k.size, fun i cs t fz hi ht => k.block i cs t fz (h.block i cs t fz hi ht) ht⟩
theorem ModT.of_below {T : TypeId → Prop} {a b : World} (h : Below a.heap.size a b) : ModT T a b :=
  ⟨h.os, h.tape, h.output, h.size, fun i cs t fz hi _ => (h.block i (Array.getElem?_eq_some_iff.1 hi).1).trans hi⟩
theorem ModT.weaken {T T' : TypeId → Prop} {a b : World} (h : ModT T a b) (ht : ∀ t, T t → T' t) : ModT T' a b := ⟨h.os, h.tape, h.output, h.size, fun i cs t fz hi hn => h.block i cs t fz hi (fun c => hn (ht t c))⟩
theorem Blk.modT {T : TypeId → Prop} {w w' : World} {R : Nat} {cs : Array Value} {t : TypeId} (h : Blk w R cs t) (m : ModT T w w') (ht : ¬ T t) : Blk w' R cs t := m.block R cs t (0, 0) h ht
theorem ModT.set {T : TypeId → Prop} {a b : World} {R : Nat} {cs : Array Value} {t : TypeId} (h : ModT T a b) (hb : Blk b R cs t) (ht : T t) (i : Nat) (v : Value) : ModT T a (b.setCell ⟨R, i, none⟩ v) :=
  h.trans ⟨rfl, rfl, rfl, by simp [World.setCell], fun k cs' t' fz hk hn => by
    by_cases e : k = R
    · subst e
      unfold Blk at hb
      rw [hb] at hk
      injection hk with hk
      injection hk with _ h2 _
      subst h2
      exact absurd ht hn
    · exact (Below.heap_setCell _ _ _ _ e).trans hk⟩
theorem ModT.grown {T : TypeId → Prop} {a b c : World} {B n size : Nat} {e : TypeId} {v : Value} {xs : List Value} (h : ModT T a b) (hown : b.ownsRow B e size v n xs) (hg : b.grownBy c v.ownBlock) (ht : T e) : ModT T a c :=
  h.trans ⟨hg.os, hg.tape, hg.output, hg.size, fun k cs t fz hk hn => by
    rw [hg.block k (Array.getElem?_eq_some_iff.1 hk).1 ?_]
    · exact hk
    · intro c
      rcases hown.2 with ⟨rfl, _⟩ | ⟨g, cap, cur, rfl, _, hgl, _⟩
      · cases c
      · have e1 : k = g := by simpa [Value.ownBlock] using c
        subst e1
        rw [hgl] at hk
        injection hk with hk
        injection hk with _ h2 _
        subst h2
        exact hn ht⟩
theorem ModT.freeze {T : TypeId → Prop} {a b : World} {g : Nat} {cs : Array Value} {t : TypeId} {fz : Nat × Nat} (h : ModT T a b) (hb : b.heap[g]? = some (Obj.cells cs t fz)) (ht : T t) (n : Nat) : ModT T a (b.freeze ⟨g, 0, none⟩ n) := by
  refine h.trans ?_
  unfold World.freeze
  split
  · exact ModT.refl _ _
  · refine ⟨rfl, rfl, rfl, by simp, fun k cs' t' fz' hk hn => ?_⟩
    simp only [Array.getElem?_modify]
    split
    · rename_i e
      subst e
      rw [hb] at hk
      injection hk with hk
      injection hk with _ h2 _
      subst h2
      exact absurd ht hn
    · exact hk
/-- The writer's own types. -/
def wT (t : TypeId) : Prop := t = 94 ∨ t = 5
/-- A writer at block b that holds the bytes s and the code c. -/
def WrAt (B b : Nat) (s : ByteArray) (c : Int) (w : World) : Prop :=
  B ≤ b ∧ ∃ p v, (p = .pointer none ∨ p = .pointer (some ⟨b, 0, none⟩)) ∧ Blk w b #[p, v, .int .u8 c] 94 ∧ w.ownsRow B 5 1 v s.size (Lib.byteCells s.data.toList)
theorem byte_len (s : ByteArray) : (Lib.byteCells s.data.toList).length = s.size := by rw [Lib.byteCells_length]; rfl
theorem wr_modT {T : TypeId → Prop} {B b : Nat} {s : ByteArray} {c : Int} {w w' : World} (h : WrAt B b s c w) (m : ModT T w w') (h1 : ¬ T 94) (h2 : ¬ T 5) : WrAt B b s c w' := by
  obtain ⟨hB, p, v, hp, hb, hown⟩ := h
  refine ⟨hB, p, v, hp, hb.modT m h1, hown.1, ?_⟩
  rcases hown.2 with h0 | ⟨g, cap, cur, rfl, hg, hh, hrest⟩
  · exact .inl h0
  · exact .inr ⟨g, cap, cur, rfl, hg, m.block g cur _ _ hh h2, hrest⟩
theorem wr_below {B b : Nat} {s : ByteArray} {c : Int} {w w' : World} (h : WrAt B b s c w) (m : Below w.heap.size w w') : WrAt B b s c w' := wr_modT (T := fun _ => False) h (ModT.of_below m) (fun h => h) (fun h => h)
theorem w_lies : liesAt Tryd.prog Tryd.prog.depth 94 (3 / Tryd.prog.cellsOf 94) 0 92 1 = true := by kernel_rfl
theorem blk_shape {w : World} {b : Nat} {cs : Array Value} {t : TypeId} (h : Blk w b cs t) : w.shape? b = some (t, cs.size) := by unfold Blk at h; simp [World.shape?, h]
set_option maxHeartbeats 1000000 in
set_option maxRecDepth 100000 in
theorem wcc_used (b : Nat) (v : Value) (c : Int) (w : World) (hb : Blk w b #[.pointer (some ⟨b, 0, none⟩), v, .int .u8 c] 94) :
    Calls Tryd.prog 109 #[.pointer (some ⟨b, 0, none⟩)] w fun e w' => e = .returned (.tuple #[]) ∧ w' = w := cc_used b w (hb.cell 0)
set_option maxHeartbeats 1000000 in
set_option maxRecDepth 100000 in
theorem wcc_fresh (b : Nat) (v : Value) (c : Int) (w : World) (hb : Blk w b #[.pointer none, v, .int .u8 c] 94) :
    Calls Tryd.prog 109 #[.pointer (some ⟨b, 0, none⟩)] w fun e w' => e = .returned (.tuple #[]) ∧ w' = w.setCell ⟨b, 0, none⟩ (.pointer (some ⟨b, 0, none⟩)) := by
  obtain ⟨j, hj, hjs⟩ := Option.map_eq_some_iff.1 b_size
  have h0 : w.cell? ⟨b, 0, none⟩ = some (.pointer none) := hb.cell 0
  have hsh : w.shape? b = some (94, 3) := blk_shape hb
  have hfz : w.frozen? ⟨b, 0, none⟩ = false := hb.frozen 0
  clear hb
  go_enter Tryd.func109, Tryd.ntmps109
  go_wp2
  rw [Lib.run_to_unsafe w ⟨b, 0, none⟩ Tryd.underlying90 Tryd.underlying188 hj (by rw [hjs]; decide) hsh (Nat.zero_lt_succ 2)]
  simp only [Result.andThen]
  rw [Oper.upon_value]
  go_wp2
  rw [run_callFunc_extern Tryd.func120 (by kernel_rfl) (by kernel_rfl) (by kernel_rfl) (e := Extern.AbiNoEscape.same) (by kernel_rfl)]
  rw [Lib.run_noEscape]
  simp only [Result.andThen]
  rw [Oper.upon_value]
  go_wp2
  rw [Lib.run_from_unsafe w ⟨b, 0, none⟩ Tryd.underlying188 Tryd.underlying90 hj hsh w_lies]
  simp only [Result.andThen]
  rw [Oper.upon_value]
  go_wp2
  go_end0
  exact ⟨rfl, rfl⟩
theorem wcc_any (b : Nat) (p v : Value) (c : Int) (w : World) (hp : p = .pointer none ∨ p = .pointer (some ⟨b, 0, none⟩)) (hb : Blk w b #[p, v, .int .u8 c] 94) :
    Calls Tryd.prog 109 #[.pointer (some ⟨b, 0, none⟩)] w fun e w' => e = .returned (.tuple #[]) ∧ Blk w' b #[.pointer (some ⟨b, 0, none⟩), v, .int .u8 c] 94 ∧ Mod (· = b) w w' := by
  rcases hp with rfl | rfl
  · refine (wcc_fresh b v c w hb).mono ?_
    rintro e w' ⟨rfl, rfl⟩
    exact ⟨rfl, hb.set 0 _, (Mod.refl (· = b) w).setCell (p := ⟨b, 0, none⟩) (.inl rfl) _⟩
  · refine (wcc_used b v c w hb).mono ?_
    rintro e w' ⟨rfl, rfl⟩
    exact ⟨rfl, hb, Mod.refl _ _⟩
theorem Mod.modT {T : TypeId → Prop} {w w' : World} {b : Nat} {cs : Array Value} {t : TypeId} (m : Mod (· = b) w w') (hb : Blk w b cs t) (ht : T t) : ModT T w w' :=
  ⟨m.os, m.tape, m.output, m.size, fun k cs' t' fz hk hn => by
    by_cases e : k = b
    · subst e
      unfold Blk at hb
      rw [hb] at hk
      injection hk with hk
      injection hk with _ h2 _
      subst h2
      exact absurd ht hn
    · exact (m.block k (Array.getElem?_eq_some_iff.1 hk).1 e).trans hk⟩
set_option maxHeartbeats 2000000 in
set_option maxRecDepth 100000 in
theorem wws_any (B b : Nat) (s t : ByteArray) (c : Int) (w : World) (h : WrAt B b s c w) (hlen : s.size + t.size ≤ 140737488355328) (hBw : B ≤ w.heap.size) :
    Calls Tryd.prog 92 #[.pointer (some ⟨b, 0, none⟩), .string t] w fun e w' => e = .returned (.tuple #[.int .i64 t.size, .nilIface]) ∧ WrAt B b (s ++ t) c w' ∧ Below B w w' ∧ ModT wT w w' := by
  obtain ⟨i0, hi, hz0, hz1, hz2⟩ := info_parts b_byte
  obtain ⟨hB, p, v, hp, hb, hown⟩ := h
  have CC := Lib.hid (wcc_any b p v c w hp hb)
  have HB := Lib.hid hb
  have HO := Lib.hid hown
  clear hb hown hp
  go_enter Tryd.func92, Tryd.ntmps92
  go_wp2_with (go_at_call 109; refine CC.out.mono ?_)
  rintro e w1 ⟨rfl, hb1, hm1⟩
  have HB1 := Lib.hid hb1
  have hne : v.ownBlock ≠ some b := own_ne HO.out HB.out (by decide)
  have HO1 := Lib.hid (own_mod HO.out hm1 (fun g e c => hne (e.trans (by rw [c]))))
  have M1 := Lib.hid (Mod.modT (T := wT) hm1 HB.out (.inl rfl))
  have B1 := Lib.hid (hm1.below hBw (fun k e => by omega))
  have c0 := hb1.cell 0
  have c1 := hb1.cell 1
  simp only [List.getElem?_toArray, List.getElem?_cons_zero, List.getElem?_cons_succ] at c0 c1
  have hBw1 : B ≤ w1.heap.size := Nat.le_trans hBw hm1.size
  have h63 : s.size + t.size ≤ maxLen := by unfold maxLen; omega
  clear hb1 hm1
  go_wp2_with (at_builtin; refine Lib.wpList_append_own_string _ rfl _ _ 59 9 rfl B 5 i0 Tryd.underlying59 Tryd.underlying9 hi hz0 hz1 hz2 _ _ _ rfl HO1.out t rfl h63 hlen hBw1 ?_)
  intro v' w2 hown' hgrow _
  have HB2 := Lib.hid (HB1.out.grown hgrow hne)
  have HO2 := Lib.hid hown'
  have M2 := Lib.hid (M1.out.grown HO1.out hgrow (.inr rfl))
  have B2 := Lib.hid (B1.out.grown hgrow hBw1 (fun k hk => (HO1.out.lt k hk).1))
  have d0 := HB2.out.cell 0
  have d1 := HB2.out.cell 1
  simp only [List.getElem?_toArray, List.getElem?_cons_zero, List.getElem?_cons_succ] at d0 d1
  have f1 := HB2.out.frozen 1
  have hne2 : v'.ownBlock ≠ some b := own_ne HO2.out HB2.out (by decide)
  obtain ⟨ao, n', cap, rfl⟩ : ∃ ao n' cap, v' = .slice ao n' cap := by
    rcases hown'.2 with ⟨hv, _⟩ | ⟨g, cap, cur, hv, _⟩
    · exact ⟨_, _, _, hv⟩
    · exact ⟨_, _, _, hv⟩
  clear hown' hgrow
  go_wp2
  go_ret2
  refine ⟨rfl, ⟨hB, _, _, .inr rfl, HB2.out.set 1 _, ?_⟩, B2.out.setCell (p := ⟨b, 1, none⟩) hB _, M2.out.set HB2.out (.inl rfl) 1 _⟩
  have e : Lib.byteCells (s ++ t).data.toList = Lib.byteCells s.data.toList ++ Lib.strCells t := by
    rw [ByteArray.data_append, Array.toList_append, Lib.byteCells_append]; rfl
  rw [e, ByteArray.size_append]
  exact own_mod HO2.out ((Mod.refl (· = b) _).setCell (p := ⟨b, 1, none⟩) (.inl rfl) _) (fun g e c => hne2 (e.trans (by rw [c])))
set_option maxHeartbeats 1000000 in
set_option maxRecDepth 100000 in
theorem wlen_any (B b : Nat) (s : ByteArray) (c : Int) (w : World) (h : WrAt B b s c w) :
    Calls Tryd.prog 27 #[.pointer (some ⟨b, 0, none⟩)] w fun e w' => e = .returned (.int .i64 s.size) ∧ w = w' := by
  obtain ⟨hB, p, v, hp, hb, hown⟩ := h
  obtain ⟨ao, cap, rfl⟩ : ∃ ao cap, v = .slice ao s.size cap := by
    rcases hown.2 with ⟨hv, h0⟩ | ⟨g, cap, cur, hv, _⟩
    · exact ⟨none, 0, by rw [hv, h0]⟩
    · exact ⟨_, _, hv⟩
  have c1 := hb.cell 1
  simp only [List.getElem?_toArray, List.getElem?_cons_zero, List.getElem?_cons_succ] at c1
  clear hb hown hp
  go_enter Tryd.func27, Tryd.ntmps27
  go_wp2
  go_ret
  exact ⟨rfl, rfl⟩
end Go.Proofs.YtedapgeabpadaaaDoor

/- The walks of a packet's writer: fail, part, numbers, texts, data, qos, id, some, bit. -/
set_option linter.unusedVariables false
namespace Go.Proofs.YtedapgeabpadaaaDoor
open Go.Shelf Go.RowKit Pl

/-- A writer in a world that has grown out of another. -/
structure Wst (W0 : World) (b : Nat) (o : Ot) (w : World) : Prop where
  below : Below W0.heap.size W0 w
  wr : WrAt W0.heap.size b o.s o.c w
def WPost (W0 : World) (b : Nat) (o : Ot) (w w' : World) (e : Ending) : Prop := e = .returned (.tuple #[]) ∧ Wst W0 b o w' ∧ ModT wT w w'
theorem Wst.step {W0 : World} {b : Nat} {o : Ot} {w w' : World} (h : Wst W0 b o w) (m : Below w.heap.size w w') : Wst W0 b o w' := ⟨h.below.trans (m.mono h.below.size), wr_below h.wr m⟩
theorem Wst.alloc {W0 : World} {b : Nat} {o : Ot} {w : World} (h : Wst W0 b o w) (x : Obj) : Wst W0 b o (w.alloc x) := h.step ((Below.refl _ _).alloc (Nat.le_refl _) x)
theorem wr_blk {B b : Nat} {s : ByteArray} {c : Int} {w : World} (h : WrAt B b s c w) : ∃ p v, Blk w b #[p, v, .int .u8 c] 94 := by
  obtain ⟨_, p, v, _, hb, _⟩ := h
  exact ⟨p, v, hb⟩
theorem wr_set {B b : Nat} {s : ByteArray} {c d : Int} {w : World} (h : WrAt B b s c w) : WrAt B b s d (w.setCell ⟨b, 2, none⟩ (.int .u8 d)) := by
  obtain ⟨hB, p, v, hp, hb, hown⟩ := h
  have hne : v.ownBlock ≠ some b := own_ne hown hb (by decide)
  exact ⟨hB, p, v, hp, hb.set 2 _, own_mod hown ((Mod.refl (· = b) w).setCell (p := ⟨b, 2, none⟩) (.inl rfl) _) (fun g e c => hne (e.trans (by rw [c])))⟩
set_option maxHeartbeats 1000000 in
theorem wfail_any (W0 : World) (b : Nat) (o : Ot) (d : Int) (w : World) (h : Wst W0 b o w) :
    Calls Tryd.prog 24 #[.pointer (some ⟨b, 0, none⟩), .int .u8 d] w fun e w' => WPost W0 b (o.fail d) w w' e := by
  obtain ⟨p, v, hb⟩ := wr_blk h.wr
  have c2 := hb.cell 2
  simp only [List.getElem?_toArray, List.getElem?_cons_zero, List.getElem?_cons_succ] at c2
  have f2 := hb.frozen 2
  have HB := Lib.hid hb
  have HH := Lib.hid h
  clear hb h
  by_cases hc : o.c = 0
  · rw [hc] at c2
    have HC := Lib.hid hc
    clear hc
    go_enter Tryd.func24, Tryd.ntmps24
    go_wp2
    go_end0
    refine ⟨rfl, ⟨HH.out.below.setCell (p := ⟨b, 2, none⟩) HH.out.wr.1 _, ?_⟩, (ModT.refl _ _).set HB.out (.inl rfl) 2 _⟩
    have e : (o.fail d).c = d := by unfold Ot.fail mix; rw [HC.out]; rfl
    rw [e]
    exact wr_set HH.out.wr
  · have e0 : (o.c == 0) = false := beq_eq_false_iff_ne.2 hc
    have HC := Lib.hid hc
    clear hc
    go_enter Tryd.func24, Tryd.ntmps24
    go_wp2
    go_end0
    have e : o.fail d = o := by unfold Ot.fail mix; rw [if_neg HC.out]
    rw [e]
    exact ⟨rfl, HH.out, ModT.refl _ _⟩
set_option maxHeartbeats 1000000 in
theorem wpart_any (W0 : World) (b : Nat) (o : Ot) (t : ByteArray) (d : Int) (w : World) (hs : o.s.size + t.size ≤ 140737488355328) (h : Wst W0 b o w) :
    Calls Tryd.prog 71 #[.pointer (some ⟨b, 0, none⟩), .string t, .int .u8 d] w fun e w' => WPost W0 b (o.add t d) w w' e := by
  have CF := Lib.hid (wfail_any W0 b o d w h)
  have HS := Lib.hid hs
  clear h hs
  go_enter Tryd.func71, Tryd.ntmps71
  go_wp2_with fail
  (with_reducible refine CF.out.mono ?_)
  rintro e w1 ⟨rfl, h1, m1⟩
  have HH := Lib.hid h1
  have HM := Lib.hid m1
  have CW := Lib.hid (wws_any W0.heap.size b (o.fail d).s t (o.fail d).c w1 h1.wr (by rw [fail_size]; exact HS.out) h1.below.size)
  clear h1 m1
  go_wp2_with fail
  (with_reducible refine CW.out.mono ?_)
  rintro e w2 ⟨rfl, h2, b2, m2⟩
  go_wp2
  go_end0
  exact ⟨rfl, ⟨HH.out.below.trans b2, h2⟩, HM.out.trans m2⟩
theorem wbyte_any (W0 : World) (b : Nat) (o : Ot) (n : Int) (w : World) (hs : o.s.size ≤ 1099511627776) (h : Wst W0 b o w) :
    Calls Tryd.prog 41 #[.pointer (some ⟨b, 0, none⟩), .int .i64 n] w fun e w' => WPost W0 b (wNum 1 o n) w w' e := by
  have HH := Lib.hid h
  have HS := Lib.hid hs
  clear h hs
  go_enter Tryd.func41, Tryd.ntmps41
  go_wp2_with fail
  (with_reducible refine (fixed_all 1 n _).mono ?_)
  rintro e w1 ⟨rfl, b1⟩
  have HM := Lib.hid (ModT.of_below (T := wT) b1)
  have CP := Lib.hid (wpart_any W0 b o ⟨(fixS 1 n).toArray⟩ (fixC 1 n) w1 (by have := HS.out; have h2 := fixS_len 1 n; show o.s.size + (fixS 1 n).toArray.size ≤ _; simp at h2 ⊢; omega) (HH.out.step b1))
  clear b1
  go_wp2_with fail
  (with_reducible refine CP.out.mono ?_)
  rintro e w2 ⟨rfl, h2, m2⟩
  go_wp2
  go_end0
  exact ⟨rfl, h2, HM.out.trans m2⟩
theorem wtwo_any (W0 : World) (b : Nat) (o : Ot) (n : Int) (w : World) (hs : o.s.size ≤ 1099511627776) (h : Wst W0 b o w) :
    Calls Tryd.prog 69 #[.pointer (some ⟨b, 0, none⟩), .int .i64 n] w fun e w' => WPost W0 b (wNum 2 o n) w w' e := by
  have HH := Lib.hid h
  have HS := Lib.hid hs
  clear h hs
  go_enter Tryd.func69, Tryd.ntmps69
  go_wp2_with fail
  (with_reducible refine (fixed_all 2 n _).mono ?_)
  rintro e w1 ⟨rfl, b1⟩
  have HM := Lib.hid (ModT.of_below (T := wT) b1)
  have CP := Lib.hid (wpart_any W0 b o ⟨(fixS 2 n).toArray⟩ (fixC 2 n) w1 (by have := HS.out; have h2 := fixS_len 2 n; show o.s.size + (fixS 2 n).toArray.size ≤ _; simp at h2 ⊢; omega) (HH.out.step b1))
  clear b1
  go_wp2_with fail
  (with_reducible refine CP.out.mono ?_)
  rintro e w2 ⟨rfl, h2, m2⟩
  go_wp2
  go_end0
  exact ⟨rfl, h2, HM.out.trans m2⟩
theorem wtext_any (W0 : World) (b : Nat) (o : Ot) (t : ByteArray) (w : World) (ht : t.size ≤ 140737488351232) (hs : o.s.size ≤ 1099511627776) (h : Wst W0 b o w) (hT : Tabs W0) :
    Calls Tryd.prog 68 #[.pointer (some ⟨b, 0, none⟩), .string t] w fun e w' => WPost W0 b (wText o t) w w' e := by
  have HH := Lib.hid h
  have HS := Lib.hid hs
  have CT := Lib.hid (tput_any t w ht (hT.below h.below))
  clear h hs
  go_enter Tryd.func68, Tryd.ntmps68
  go_wp2_with fail
  (with_reducible refine CT.out.mono ?_)
  rintro e w1 ⟨rfl, b1⟩
  have HM := Lib.hid (ModT.of_below (T := wT) b1)
  have CP := Lib.hid (wpart_any W0 b o (tputS t) (tputC t) w1 (by have := HS.out; have h2 := tputS_small t; omega) (HH.out.step b1))
  clear b1
  go_wp2_with fail
  (with_reducible refine CP.out.mono ?_)
  rintro e w2 ⟨rfl, h2, m2⟩
  go_wp2
  go_end0
  exact ⟨rfl, h2, HM.out.trans m2⟩
theorem wdata_any (W0 : World) (b : Nat) (o : Ot) (t : ByteArray) (w : World) (ht : t.size ≤ 140737488351232) (hs : o.s.size ≤ 1099511627776) (h : Wst W0 b o w) :
    Calls Tryd.prog 70 #[.pointer (some ⟨b, 0, none⟩), .string t] w fun e w' => WPost W0 b (wData o t) w w' e := by
  have HH := Lib.hid h
  have HS := Lib.hid hs
  have CT := Lib.hid (data_all t w ht)
  clear h hs
  go_enter Tryd.func70, Tryd.ntmps70
  go_wp2_with fail
  (with_reducible refine CT.out.mono ?_)
  rintro e w1 ⟨rfl, b1⟩
  have HM := Lib.hid (ModT.of_below (T := wT) b1)
  have CP := Lib.hid (wpart_any W0 b o (dataS t) (dataC t) w1 (by have := HS.out; have h2 := dataS_small t; omega) (HH.out.step b1))
  clear b1
  go_wp2_with fail
  (with_reducible refine CP.out.mono ?_)
  rintro e w2 ⟨rfl, h2, m2⟩
  go_wp2
  go_end0
  exact ⟨rfl, h2, HM.out.trans m2⟩
theorem wqos_any (W0 : World) (b : Nat) (o : Ot) (n : Int) (w : World) (h : Wst W0 b o w) :
    Calls Tryd.prog 23 #[.pointer (some ⟨b, 0, none⟩), .int .i64 n] w fun e w' => WPost W0 b (wQos o n) w w' e := by
  have HH := Lib.hid h
  have CF := Lib.hid (wfail_any W0 b o 129 w h)
  obtain ⟨O, hO⟩ : ∃ O, wQos o n = O := ⟨_, rfl⟩
  rw [hO]
  unfold wQos at hO
  clear h
  by_cases h1 : n < 0
  · rw [if_pos (.inl h1)] at hO
    subst hO
    go_enter Tryd.func23, Tryd.ntmps23
    go_wp2_with fail
    (with_reducible refine CF.out.mono ?_)
    rintro e w1 ⟨rfl, h1, m1⟩
    go_wp2
    go_end0
    exact ⟨rfl, h1, m1⟩
  · by_cases h2 : 2 < n
    · rw [if_pos (.inr h2)] at hO
      subst hO
      go_enter Tryd.func23, Tryd.ntmps23
      go_wp2_with fail
      (with_reducible refine CF.out.mono ?_)
      rintro e w1 ⟨rfl, h1, m1⟩
      go_wp2
      go_end0
      exact ⟨rfl, h1, m1⟩
    · rw [if_neg (by omega)] at hO
      subst hO
      go_enter Tryd.func23, Tryd.ntmps23
      go_wp2
      go_end0
      exact ⟨rfl, HH.out, ModT.refl _ _⟩
theorem wid_any (W0 : World) (b : Nat) (o : Ot) (n : Int) (w : World) (hs : o.s.size ≤ 1099511627776) (h : Wst W0 b o w) :
    Calls Tryd.prog 44 #[.pointer (some ⟨b, 0, none⟩), .int .i64 n] w fun e w' => WPost W0 b (wId o n) w w' e := by
  have CF := Lib.hid (wfail_any W0 b o 130 w h)
  have CN := Lib.hid (wtwo_any W0 b o n w hs h)
  obtain ⟨O, hO⟩ : ∃ O, wId o n = O := ⟨_, rfl⟩
  rw [hO]
  unfold wId at hO
  clear h hs
  by_cases h1 : n < 1
  · rw [if_pos (.inl h1)] at hO
    subst hO
    go_enter Tryd.func44, Tryd.ntmps44
    go_wp2_with fail
    (with_reducible refine CF.out.mono ?_)
    rintro e w1 ⟨rfl, h1, m1⟩
    go_wp2
    refine bodyPost_ret (results_none Tryd.results44 _ _ _) rfl ?_
    exact ⟨rfl, h1, m1⟩
  · by_cases h2 : 65535 < n
    · rw [if_pos (.inr h2)] at hO
      subst hO
      go_enter Tryd.func44, Tryd.ntmps44
      go_wp2_with fail
      (with_reducible refine CF.out.mono ?_)
      rintro e w1 ⟨rfl, h1, m1⟩
      go_wp2
      refine bodyPost_ret (results_none Tryd.results44 _ _ _) rfl ?_
      exact ⟨rfl, h1, m1⟩
    · rw [if_neg (by omega)] at hO
      subst hO
      go_enter Tryd.func44, Tryd.ntmps44
      go_wp2_with fail
      (with_reducible refine CN.out.mono ?_)
      rintro e w1 ⟨rfl, h1, m1⟩
      go_wp2
      go_end0
      exact ⟨rfl, h1, m1⟩
theorem wsome_any (W0 : World) (b : Nat) (o : Ot) (n : Int) (w : World) (h : Wst W0 b o w) :
    Calls Tryd.prog 77 #[.pointer (some ⟨b, 0, none⟩), .int .i64 n] w fun e w' => WPost W0 b (wSome o n) w w' e := by
  have HH := Lib.hid h
  have CF := Lib.hid (wfail_any W0 b o 130 w h)
  have CG := Lib.hid (wfail_any W0 b o 149 w h)
  obtain ⟨O, hO⟩ : ∃ O, wSome o n = O := ⟨_, rfl⟩
  rw [hO]
  unfold wSome at hO
  clear h
  by_cases h1 : n = 0
  · rw [if_pos h1] at hO
    subst hO
    subst h1
    go_enter Tryd.func77, Tryd.ntmps77
    go_wp2_with fail
    (with_reducible refine CF.out.mono ?_)
    rintro e w1 ⟨rfl, h1, m1⟩
    go_wp2
    go_end0
    exact ⟨rfl, h1, m1⟩
  · have e0 : (n == 0) = false := beq_eq_false_iff_ne.2 h1
    rw [if_neg h1] at hO
    clear h1
    by_cases h2 : 64 < n
    · rw [if_pos h2] at hO
      subst hO
      go_enter Tryd.func77, Tryd.ntmps77
      go_wp2_with fail
      (with_reducible refine CG.out.mono ?_)
      rintro e w1 ⟨rfl, h1, m1⟩
      go_wp2
      go_end0
      exact ⟨rfl, h1, m1⟩
    · rw [if_neg h2] at hO
      subst hO
      go_enter Tryd.func77, Tryd.ntmps77
      go_wp2
      go_end0
      exact ⟨rfl, HH.out, ModT.refl _ _⟩
theorem bit_any (x : Bool) (n : Int) (w : World) : Calls Tryd.prog 25 #[.bool x, .int .i64 n] w fun e w' => e = .returned (.int .i64 (bt1 x n)) ∧ w = w' := by
  cases x
  · go_enter Tryd.func25, Tryd.ntmps25
    go_wp2
    go_ret
    exact ⟨rfl, rfl⟩
  · go_enter Tryd.func25, Tryd.ntmps25
    go_wp2
    go_ret
    exact ⟨rfl, rfl⟩
end Go.Proofs.YtedapgeabpadaaaDoor

/- The walks of both KindOf functions. -/
namespace Go.Proofs.YtedapgeabpadaaaDoor
open Go.RowKit Pl

set_option maxHeartbeats 1600000 in
theorem kind_any (n : Int) (w : World) : Calls Tryd.prog 93 #[.int .i64 n] w fun e w' => e = .returned (.int .i64 (kindOf n)) ∧ w = w' := by
  go_enter Tryd.func93, Tryd.ntmps93
  go_wp2
  all_goals go_ret
  all_goals first
    | exact ⟨ret_int (kindE ‹(n == _) = true› (by decide)), rfl⟩
    | exact ⟨ret_int (kindN ‹_› ‹_› ‹_› ‹_› ‹_› ‹_› ‹_› ‹_› ‹_› ‹_› ‹_› ‹_› ‹_› ‹_› ‹_› ‹_› ‹_› ‹_› ‹_› ‹_› ‹_› ‹_› ‹_› ‹_› ‹_› ‹_› ‹_›), rfl⟩

theorem refin_any (b : Nat) (l : List Int) (n : Int) (w : World) (hl : l.length ≤ 1000) (hc : ∀ j, j < l.length → w.cell? ⟨b, j, none⟩ = some (.int .i64 (l.getD j 0))) :
    Calls Tryd.prog 116 #[.int .i64 n, .slice (some ⟨b, 0, none⟩) l.length l.length] w fun e w' => e = .returned (.bool (isIn n l)) ∧ w = w' := by
  have Hc := Lib.hid hc
  clear hc
  go_enter Tryd.func116, Tryd.ntmps116
  go_wp2
  go_loop [5] (fun i => ∃ k : Nat, i = .int .i64 k ∧ k ≤ l.length ∧ Hid (∀ j, j < k → l.getD j 0 ≠ n)) (fun i => l.length - (intOf i).toNat)
  case atStart => exact ⟨0, rfl, by omega, fun j hj => absurd hj (by omega)⟩
  case round =>
    obtain ⟨k, rfl, hk, hno⟩ := hrel
    by_cases hlt : k < l.length
    · have hcell := Hc.out k hlt
      obtain ⟨x, hx⟩ : ∃ x, l.getD k 0 = x := ⟨_, rfl⟩
      rw [hx] at hcell
      have Hx := Lib.hid hx
      clear hx
      by_cases he : x = n
      · have hhit := Lib.hid (isIn_hit hlt (Hx.out.trans he))
        subst he
        go_wp2
        go_ret
        exact ⟨ret_bool hhit.out.symm, rfl⟩
      · have hne : (x == n) = false := by rw [beq_eq_false_iff_ne]; exact he
        go_wp2
        go_round
        case rel => exact ⟨k + 1, by go_num, by omega, fun j hj => by
          by_cases hjk : j = k
          · subst hjk; rw [Hx.out]; exact he
          · exact hno.out j (by omega)⟩
        case measure => simp [intOf]; omega
    · have hnone := Lib.hid (isIn_none (n := n) (l := l) fun j hj => hno.out j (by omega))
      go_wp2
      go_ret
      exact ⟨ret_bool hnone.out.symm, rfl⟩

set_option maxHeartbeats 1600000 in
theorem refkind_any (n : Int) (w : World) : Calls Tryd.prog 104 #[.int .i64 n] w fun e w' => e = .returned (.int .i64 (kindOf n)) ∧ Below w.heap.size w w' := by
  obtain ⟨a, ha⟩ : ∃ a, isIn n [1, 23, 25, 36, 37, 40, 41, 42] = a := ⟨_, rfl⟩
  obtain ⟨b, hb⟩ : ∃ a, isIn n [19, 33, 34, 35] = a := ⟨_, rfl⟩
  obtain ⟨c, hc⟩ : ∃ a, isIn n [2, 17, 24, 39] = a := ⟨_, rfl⟩
  obtain ⟨d, hd⟩ : ∃ a, isIn n [9, 22] = a := ⟨_, rfl⟩
  obtain ⟨f, hf⟩ : ∃ a, isIn n [3, 8, 18, 21, 26, 28, 31] = a := ⟨_, rfl⟩
  obtain ⟨k1, k2, k3, k4, k5, k6, k7, k0⟩ := kindW n ha hb hc hd hf
  have K0 := Lib.hid k0
  have K1 := Lib.hid k1
  have K2 := Lib.hid k2
  have K3 := Lib.hid k3
  have K4 := Lib.hid k4
  have K5 := Lib.hid k5
  have K6 := Lib.hid k6
  have K7 := Lib.hid k7
  clear k0 k1 k2 k3 k4 k5 k6 k7
  go_enter Tryd.func104, Tryd.ntmps104
  go_wp2_with fail
  refine (refin_any _ [1, 23, 25, 36, 37, 40, 41, 42] n _ (by decide) ?_).mono ?_
  · exact cells_new _ .i64 3 [1, 23, 25, 36, 37, 40, 41, 42] _ (by simp)
  rintro e w' ⟨rfl, rfl⟩
  rw [ha]
  go_wp2_with fail
  refine (refin_any _ [19, 33, 34, 35] n _ (by decide) ?_).mono ?_
  · exact cells_new _ .i64 3 [19, 33, 34, 35] _ (by simp)
  rintro e w' ⟨rfl, rfl⟩
  rw [hb]
  go_wp2_with fail
  refine (refin_any _ [2, 17, 24, 39] n _ (by decide) ?_).mono ?_
  · exact cells_new _ .i64 3 [2, 17, 24, 39] _ (by simp)
  rintro e w' ⟨rfl, rfl⟩
  rw [hc]
  go_wp2_with fail
  refine (refin_any _ [9, 22] n _ (by decide) ?_).mono ?_
  · exact cells_new _ .i64 3 [9, 22] _ (by simp)
  rintro e w' ⟨rfl, rfl⟩
  rw [hd]
  go_wp2_with fail
  refine (refin_any _ [3, 8, 18, 21, 26, 28, 31] n _ (by decide) ?_).mono ?_
  · exact cells_new _ .i64 3 [3, 8, 18, 21, 26, 28, 31] _ (by simp)
  rintro e w' ⟨rfl, rfl⟩
  rw [hf]
  clear ha hb hc hd hf
  go_wp2
  all_goals go_ret
  all_goals refine ⟨?_, ?_⟩
  all_goals first
    | exact ret_int (K1.out ‹_›)
    | exact ret_int (K2.out ‹_› ‹_›)
    | exact ret_int (K3.out ‹_› ‹_› ‹_›)
    | exact ret_int (K4.out ‹_› ‹_› ‹_› ‹_›)
    | exact ret_int (K5.out ‹_› ‹_› ‹_› ‹_› ‹_›)
    | exact ret_int (K6.out ‹_› ‹_› ‹_› ‹_› ‹_› ‹_›)
    | exact ret_int (K7.out ‹_› ‹_› ‹_› ‹_› ‹_› ‹_› ‹_›)
    | exact ret_int (K0.out ‹_› ‹_› ‹_› ‹_› ‹_› ‹_› ‹_›)
    | go_grown
end Go.Proofs.YtedapgeabpadaaaDoor

/- Appending properties in a drawn region. -/
namespace Go.Proofs.YtedapgeabpadaaaDoor
set_option linter.unusedVariables false
open Go.RowKit

theorem heap_under {w : World} {C : Nat} {x o : Obj} (h : w.heap[C]? = some x) : (w.alloc o).heap[C]? = some x := by
  have hl := (Array.getElem?_eq_some_iff.1 h).1
  show (w.heap.push o)[C]? = _
  rw [Array.getElem?_push, if_neg (by omega)]
  exact h
theorem heap_new' {w : World} {C : Nat} {o : Obj} (h : C = w.heap.size) : (w.alloc o).heap[C]? = some o := by subst h; exact heap_alloc_new w o
/-- A row of another type than the one that was appended tu is as it was. -/
theorem own_far {w w' : World} {base size size' n n' : Nat} {e e' : TypeId} {v v' : Value} {xs xs' : List Value} (h : w.ownsRow base e size v n xs) (h2 : w.ownsRow base e' size' v' n' xs') (he : e ≠ e') (hg : w.grownBy w' v'.ownBlock) : w'.ownsRow base e size v n xs := by
  refine ⟨h.1, ?_⟩
  rcases h.2 with h0 | ⟨g, cap, cur, rfl, hb, hh, hrest⟩
  · exact .inl h0
  · refine .inr ⟨g, cap, cur, rfl, hb, ?_, hrest⟩
    rw [hg.block g (h.lt g rfl).2 ?_]
    · exact hh
    · intro e0
      rcases h2.2 with ⟨rfl, _⟩ | ⟨g2, cap2, cur2, rfl, _, hh2, _⟩
      · cases e0
      · have : g = g2 := by simpa [Value.ownBlock] using e0
        subst this
        rw [hh] at hh2
        injection hh2 with hh2
        injection hh2 with _ h3 _
        exact he h3
theorem step_push4 {P : Program} {X : World} {ops : Array Oper} {o : Oper} {a : Act} {K : Act → World → Prop} {Q : Exit → Act → World → Prop} {E : Prop} (hgd : o.guard = none) (s x : Operand) (t e : TypeId)
    (ho : o.op = .call { callee := .builtin .append, args := #[s, x], argTypes := #[t, t] }) (i : TypeInfo) (z : Value)
    (ht : P.underlying t = some (.slice e)) (hi : P.info? e = some i) (hz : i.zero = some z) (hsize : i.size = 4) (hby : i.bytes = 48) (hzs : z.cells.size = 4)
    (base : Nat) (v : Value) (n : Nat) (xs : List Value) (p : Pp) (C : Nat) (hs : a.eval s = v) (hx : a.eval x = .slice (some ⟨C, 0, none⟩) 1 1)
    (hown : X.ownsRow base e 4 v n xs) (hb : X.heap[C]? = some (.cells (ppA p) e (0, 0))) (hbase : base ≤ X.heap.size) (hn : n ≤ 80)
    (h : ∀ v' w', w'.ownsRow base e 4 v' (n + 1) (xs ++ (ppA p).toList) → X.grownBy w' v.ownBlock → K (a.put o.dst v') w') :
    if Region.wanted o (yielded ops a.tmps) = true then Oper.wp P o a X K Q else E :=
  step_append_lies X hgd s x t ho base e i z 4 48 ht hi hz hsize hby hzs (by decide) v n xs hs hown ⟨C, 0, none⟩ 1 1 (ppA p).toList hx rfl (World.news_of_block hb)
    (by intro u hu; simp [ppA] at hu; rcases hu with rfl | rfl | rfl | rfl <;> rfl) (by decide) (by unfold maxLen; omega) (by omega) hbase _ rfl (fun g cap w' h1 h2 _ _ => h _ w' h1 h2)
theorem info_p1 : (Tryd.prog.info? 123).map (fun i => (i.zero, i.size, i.bytes)) = some (some (.agg #[.int .i64 0, .int .i64 0, .string ⟨#[]⟩, .string ⟨#[]⟩]), 4, 48) := by kernel_rfl
theorem info_p2 : (Tryd.prog.info? 122).map (fun i => (i.zero, i.size, i.bytes)) = some (some (.agg #[.int .i64 0, .int .i64 0, .string ⟨#[]⟩, .string ⟨#[]⟩]), 4, 48) := by kernel_rfl
abbrev S4b (X : World) (B : Nat) (p : Pp) : Prop := X.cell? ⟨B, 0, none⟩ = some (.int .i64 p.id) ∧ X.cell? ⟨B, 1, none⟩ = some (.int .i64 p.n) ∧ X.cell? ⟨B, 2, none⟩ = some (.string p.s) ∧ X.cell? ⟨B, 3, none⟩ = some (.string p.t)

theorem s4b_alloc {X : World} {B : Nat} {p : Pp} {o : Obj} (h : S4b X B p) (hB : B < X.heap.size) : S4b (X.alloc o) B p :=
  ⟨(World.cell?_alloc_past _ _ _ hB).trans h.1, (World.cell?_alloc_past _ _ _ hB).trans h.2.1, (World.cell?_alloc_past _ _ _ hB).trans h.2.2.1, (World.cell?_alloc_past _ _ _ hB).trans h.2.2.2⟩
theorem s4b_grown {X Y : World} {B : Nat} {p : Pp} {row : Option Nat} (h : S4b X B p) (hB : B < X.heap.size) (hg : X.grownBy Y row) (hr : ∀ g, row = some g → g < B) : S4b Y B p := by
  have e : ∀ i, Y.cell? ⟨B, i, none⟩ = X.cell? ⟨B, i, none⟩ := fun i => hg.cell_far ⟨B, i, none⟩ hB (fun e => by have := hr B e.symm; omega)
  exact ⟨(e 0).trans h.1, (e 1).trans h.2.1, (e 2).trans h.2.2.1, (e 3).trans h.2.2.2⟩
theorem flat_take {L : List Pp} {k : Nat} {p : Pp} (hp : L[k]? = some p) : flat (L.take (k + 1)) = flat (L.take k) ++ (ppA p).toList := by
  rw [List.take_add_one, hp, flat_snoc]; rfl
end Go.Proofs.YtedapgeabpadaaaDoor

/- The walks of both Find functions, of slices.IndexFunc at properties. -/
namespace Go.Proofs.YtedapgeabpadaaaDoor
set_option linter.unusedVariables false
open Go.RowKit

def zP : Pp := ⟨0, 0, ⟨#[]⟩, ⟨#[]⟩⟩
theorem find1_any (B : Nat) (id : Int) (p : Pp) (w : World) (hB : w.cell? ⟨B, 0, none⟩ = some (.int .i64 id)) (hl : B < w.heap.size) :
    Calls Tryd.prog 121 #[.agg #[.int .i64 p.id, .int .i64 p.n, .string p.s, .string p.t], .pointer (some ⟨B, 0, none⟩)] w fun e w' => e = .returned (.bool (p.id == id)) ∧ Below w.heap.size w w' := by
  have e1 : (w.alloc (.cells #[.int .i64 p.id, .int .i64 p.n, .string p.s, .string p.t] 123)).cell? ⟨B, 0, none⟩ = some (.int .i64 id) := (World.cell?_alloc_past _ _ _ hl).trans hB
  obtain ⟨t, ht⟩ : ∃ t, (p.id == id) = t := ⟨_, rfl⟩
  rw [ht]
  go_enter Tryd.func121, Tryd.ntmps121
  go_wp2
  go_ret
  exact ⟨rfl, (Below.refl _ _).alloc (Nat.le_refl _) _⟩
theorem find_here {L : List Pp} {k : Nat} {x : Pp} {q : Pp → Bool} (hx : L[k]? = some x) (h : (L.take k).any q = false) (hq : q x = true) : L.find? q = some x := by
  have hk := (List.getElem?_eq_some_iff.1 hx).1
  have e : L = L.take k ++ x :: L.drop (k + 1) := by
    have h2 := List.drop_eq_getElem_cons hk
    rw [(List.getElem?_eq_some_iff.1 hx).2] at h2
    rw [← h2, List.take_append_drop]
  rw [e, List.find?_append, List.find?_cons_of_pos hq]
  have : (L.take k).find? q = none := by
    rw [List.find?_eq_none]
    intro y hy
    have := List.any_eq_false.1 h y hy
    exact this
  rw [this]; rfl
theorem find_not {L : List Pp} {q : Pp → Bool} (h : L.any q = false) : L.find? q = none := by
  rw [List.find?_eq_none]
  exact List.any_eq_false.1 h
theorem any_take_p {L : List Pp} {k : Nat} {x : Pp} {q : Pp → Bool} (hx : L[k]? = some x) (h : (L.take k).any q = false) (hq : q x = false) : (L.take (k + 1)).any q = false := by
  rw [List.take_add_one, hx, List.any_append, h]
  simp [hq]
set_option maxHeartbeats 1000000 in
theorem pindex_any (fn : Nat) (first cp : Array Value) (q : Pp → Bool) (A : Option Addr) (n cap : Nat) (L : List Pp) (w : World) (hn : L.length = n) (hm : n ≤ 1048576) (h : PRow w A L)
    (he : ∀ args w, (callFunc fn args).run Tryd.prog w = .ok (.enter fn args) w)
    (hf : ∀ (p : Pp) (W : World), Below w.heap.size w W → Calls Tryd.prog fn (first.push (.agg #[.int .i64 p.id, .int .i64 p.n, .string p.s, .string p.t]) ++ cp) W fun e w' => e = .returned (.bool (q p)) ∧ Below W.heap.size W w') :
    Calls Tryd.prog 96 #[.slice A n cap, .func (.func fn) first cp] w fun e w' => ∃ z : Int, e = .returned (.int .i64 z) ∧ ((z = -1 ∧ L.find? q = none) ∨ (∃ (k : Nat) (p : Pp), z = k ∧ L[k]? = some p ∧ L.find? q = some p)) ∧ Below w.heap.size w w' := by
  have H := Lib.hid h
  have HN := Lib.hid hn
  have HF := Lib.hid hf
  clear h hn hf
  go_enter Tryd.func96, Tryd.ntmps96
  go_wp2
  go_loopw [5, 8] (fun _ i wr => ∃ k : Nat, i = .int .i64 k ∧ k ≤ n ∧ Hid ((L.take k).any q = false) ∧ Below w.heap.size w wr) (fun _ i _ => n - (intOf i).toNat)
  case atStart => exact ⟨0, rfl, by omega, Lib.hid rfl, Below.refl _ _⟩
  case round =>
    obtain ⟨k, rfl, hk, hv, hbel⟩ := hrel
    by_cases hlt : k < n
    · obtain ⟨b, o, rfl, hl, hc⟩ := (H.out.below hbel) (by rw [HN.out]; omega)
      obtain ⟨x, hx⟩ : ∃ x, L[k]? = some x := ⟨_, List.getElem?_eq_getElem (by rw [HN.out]; exact hlt)⟩
      obtain ⟨e1, e2, e3, e4⟩ := hc k x hx
      have CF := HF.out x wr hbel
      obtain ⟨y, hy⟩ : ∃ y, q x = y := ⟨_, rfl⟩
      rw [hy] at CF
      have CF := Lib.hid CF
      have hkn : (k : Int) < (n : Int) := by omega
      cases y
      · have Hr := Lib.hid (any_take_p hx hv.out hy)
        clear hx hc hy
        go_wp2_with (go_at_fn fn; refine CF.out.mono ?_; rintro e w1 ⟨rfl, b1⟩)
        go_roundw
        case rel => exact ⟨k + 1, by go_num, by omega, Hr, hbel.trans (b1.mono hbel.size)⟩
        case measure => simp [intOf]; omega
      · have Hr := Lib.hid (find_here hx hv.out hy)
        have Hx := Lib.hid hx
        clear hx hc hy
        go_wp2_with (go_at_fn fn; refine CF.out.mono ?_; rintro e w1 ⟨rfl, b1⟩)
        go_ret
        exact ⟨_, rfl, .inr ⟨k, x, rfl, Hx.out, Hr.out⟩, hbel.trans (b1.mono hbel.size)⟩
    · have Hr := Lib.hid (show L.any q = false by
        have h := hv.out
        rw [List.take_of_length_le (by rw [HN.out]; omega)] at h
        exact h)
      go_wp2
      go_ret
      exact ⟨_, rfl, .inl ⟨rfl, find_not Hr.out⟩, hbel⟩
/-- The first of an identifier. -/
def fnd (L : List Pp) (id : Int) : Option Pp := L.find? fun p => p.id == id
set_option maxHeartbeats 1000000 in
theorem find_any (A : Option Addr) (n cap : Nat) (L : List Pp) (id : Int) (w : World) (hn : L.length = n) (hm : n ≤ 1048576) (h : PRow w A L) :
    Calls Tryd.prog 110 #[.slice A n cap, .int .i64 id] w fun e w' => e = .returned (.tuple #[ppV ((fnd L id).getD zP), .bool (fnd L id).isSome]) ∧ Below w.heap.size w w' := by
  have b0 : Below w.heap.size w ((w.alloc (.cells #[.int .i64 id] 3)).alloc (.cells #[.int .i64 0, .int .i64 0, .string ⟨#[]⟩, .string ⟨#[]⟩] 123)) := ((Below.refl _ _).alloc (Nat.le_refl _) _).alloc (by simp) _
  have hb0 : ((w.alloc (.cells #[.int .i64 id] 3)).alloc (.cells #[.int .i64 0, .int .i64 0, .string ⟨#[]⟩, .string ⟨#[]⟩] 123)).cell? ⟨w.heap.size, 0, none⟩ = some (.int .i64 id) := (World.cell?_alloc_past _ _ _ (by simp)).trans (World.cell?_alloc_at _ _ _ _ rfl)
  have hm0 : ∀ j, ((w.alloc (.cells #[.int .i64 id] 3)).alloc (.cells #[.int .i64 0, .int .i64 0, .string ⟨#[]⟩, .string ⟨#[]⟩] 123)).cell? ⟨w.heap.size + 1, j, none⟩ = (#[.int .i64 0, .int .i64 0, .string ⟨#[]⟩, .string ⟨#[]⟩] : Array Value)[j]? := fun j => World.cell?_alloc_at _ _ _ _ (by simp)
  have hf0 : ∀ j, ((w.alloc (.cells #[.int .i64 id] 3)).alloc (.cells #[.int .i64 0, .int .i64 0, .string ⟨#[]⟩, .string ⟨#[]⟩] 123)).frozen? ⟨w.heap.size + 1, j, none⟩ = false := fun j => by simp [go_sem]
  have hz0 : w.heap.size + 2 = ((w.alloc (.cells #[.int .i64 id] 3)).alloc (.cells #[.int .i64 0, .int .i64 0, .string ⟨#[]⟩, .string ⟨#[]⟩] 123)).heap.size := by simp
  obtain ⟨W, hW⟩ : ∃ W, (w.alloc (.cells #[.int .i64 id] 3)).alloc (.cells #[.int .i64 0, .int .i64 0, .string ⟨#[]⟩, .string ⟨#[]⟩] 123) = W := ⟨_, rfl⟩
  have hW2 := hW
  rw [hW] at b0 hb0 hm0 hf0 hz0
  have C := pindex_any 121 #[] #[.pointer (some ⟨w.heap.size, 0, none⟩)] (fun p => p.id == id) A n cap L W hn hm (h.below b0) (enters_of Tryd.func121 (by kernel_rfl) rfl) (fun p Y hb => find1_any w.heap.size id p Y ((hb.cell (p := ⟨w.heap.size, 0, none⟩) (by simp only; omega)).trans hb0) (Nat.lt_of_lt_of_le (by omega) hb.size))
  have H := Lib.hid (h.below b0)
  have HN := Lib.hid hn
  obtain ⟨R, hR⟩ : ∃ R, fnd L id = R := ⟨_, rfl⟩
  rw [hR]
  change (L.find? fun p => p.id == id) = R at hR
  rw [hR] at C
  have C := Lib.hid C
  have B0 := Lib.hid b0
  have M0 := Lib.hid hm0
  have F0 := Lib.hid hf0
  have HW := Lib.hid hW
  clear h hn hR b0 hm0 hf0 hW hb0 hW2
  go_enter Tryd.func110, Tryd.ntmps110
  go_wp2_with fail
  rw [HW.out]
  refine C.out.mono ?_
  rintro e w1 ⟨z, rfl, hz, b1⟩
  have hl1 : w.heap.size + 1 < w1.heap.size := by have := b1.size; omega
  have cc : ∀ j, w1.cell? ⟨w.heap.size + 1, j, none⟩ = _ := fun j => (b1.cell (p := ⟨w.heap.size + 1, j, none⟩) (by simp only; omega)).trans (M0.out j)
  have ff : ∀ j, w1.frozen? ⟨w.heap.size + 1, j, none⟩ = false := fun j => (b1.frozen (p := ⟨w.heap.size + 1, j, none⟩) (by simp only; omega)).trans (F0.out j)
  have m0 := cc 0
  have m1 := cc 1
  have m2 := cc 2
  have m3 := cc 3
  simp only [List.getElem?_toArray, List.getElem?_cons_zero, List.getElem?_cons_succ] at m0 m1 m2 m3
  have f0 := ff 0
  have f1 := ff 1
  have f2 := ff 2
  have f3 := ff 3
  have Bb := Lib.hid (B0.out.trans (b1.mono B0.out.size))
  have H1 := Lib.hid (H.out.below b1)
  clear cc ff b1
  rcases hz with ⟨rfl, rfl⟩ | ⟨k, p, rfl, hk, rfl⟩
  · go_wp2
    refine bodyPost_ret (v := .tuple #[.agg #[.int .i64 0, .int .i64 0, .string ⟨#[]⟩, .string ⟨#[]⟩], .bool false]) (by simp [results, Tryd.results110, go_sem, m0, m1, m2, m3]) rfl ⟨rfl, ?_⟩
    exact (((Bb.out.setCell (by simp) _).setCell (by simp) _).setCell (by simp) _).setCell (by simp) _
  · have hkn := (List.getElem?_eq_some_iff.1 hk).1
    rw [HN.out] at hkn
    obtain ⟨b, o, rfl, hl, hc⟩ := H1.out (by rw [HN.out]; omega)
    obtain ⟨e1, e2, e3, e4⟩ := hc k p hk
    have hkI : (k : Int) < (n : Int) := by omega
    have hk0 : ¬ (k : Int) < 0 := by omega
    clear hc hk
    go_wp2
    refine bodyPost_ret (v := .tuple #[.agg #[.int .i64 p.id, .int .i64 p.n, .string p.s, .string p.t], .bool true]) (by simp [results, Tryd.results110, go_sem, m0, m1, m2, m3]) rfl ⟨rfl, ?_⟩
    exact (((Bb.out.setCell (by simp) _).setCell (by simp) _).setCell (by simp) _).setCell (by simp) _
end Go.Proofs.YtedapgeabpadaaaDoor

/- The walks of a property's width, of has, of both value functions. -/
namespace Go.Proofs.YtedapgeabpadaaaDoor
set_option linter.unusedVariables false
open Go.RowKit Pl Go.Shelf

theorem s4b_blw {X Y : World} {B : Nat} {p : Pp} (h : S4b X B p) (hB : B < X.heap.size) (hb : Below X.heap.size X Y) : S4b Y B p :=
  ⟨(hb.cell (p := ⟨B, 0, none⟩) hB).trans h.1, (hb.cell (p := ⟨B, 1, none⟩) hB).trans h.2.1, (hb.cell (p := ⟨B, 2, none⟩) hB).trans h.2.2.1, (hb.cell (p := ⟨B, 3, none⟩) hB).trans h.2.2.2⟩
theorem width_any (k : Int) (w : World) : Calls Tryd.prog 111 #[.int .i64 k] w fun e w' => e = .returned (.int .i64 (wid k)) ∧ w = w' := by
  obtain ⟨d, hd⟩ : ∃ d, wid k = d := ⟨_, rfl⟩
  rw [hd]
  unfold wid at hd
  by_cases h1 : k = 1
  · subst h1
    obtain rfl : d = 1 := by rw [← hd]; rfl
    clear hd
    go_enter Tryd.func111, Tryd.ntmps111
    go_wp2
    go_ret
    exact ⟨rfl, rfl⟩
  · by_cases h2 : k = 2
    · subst h2
      obtain rfl : d = 2 := by rw [← hd]; rfl
      clear hd
      go_enter Tryd.func111, Tryd.ntmps111
      go_wp2
      go_ret
      exact ⟨rfl, rfl⟩
    · obtain rfl : d = 4 := by rw [← hd, if_neg h1, if_neg h2]
      clear hd
      have e1 : (k == 1) = false := by rw [beq_eq_false_iff_ne]; exact h1
      have e2 : (k == 2) = false := by rw [beq_eq_false_iff_ne]; exact h2
      clear h1 h2
      go_enter Tryd.func111, Tryd.ntmps111
      go_wp2
      go_ret
      exact ⟨rfl, rfl⟩
theorem refwidth_any (k : Int) (w : World) : Calls Tryd.prog 117 #[.int .i64 k] w fun e w' => e = .returned (.int .i64 (wid k)) ∧ w = w' := by
  obtain ⟨d, hd⟩ : ∃ d, wid k = d := ⟨_, rfl⟩
  rw [hd]
  unfold wid at hd
  by_cases h1 : k = 1
  · subst h1
    obtain rfl : d = 1 := by rw [← hd]; rfl
    clear hd
    go_enter Tryd.func117, Tryd.ntmps117
    go_wp2
    go_ret
    exact ⟨rfl, rfl⟩
  · by_cases h2 : k = 2
    · subst h2
      obtain rfl : d = 2 := by rw [← hd]; rfl
      clear hd
      go_enter Tryd.func117, Tryd.ntmps117
      go_wp2
      go_ret
      exact ⟨rfl, rfl⟩
    · obtain rfl : d = 4 := by rw [← hd, if_neg h1, if_neg h2]
      clear hd
      have e1 : (k == 1) = false := by rw [beq_eq_false_iff_ne]; exact h1
      have e2 : (k == 2) = false := by rw [beq_eq_false_iff_ne]; exact h2
      clear h1 h2
      go_enter Tryd.func117, Tryd.ntmps117
      go_wp2
      go_ret
      exact ⟨rfl, rfl⟩
theorem fnd_some (L : List Pp) (id : Int) : (fnd L id).isSome = L.any (fun p => p.id == id) := by
  unfold fnd
  rw [List.isSome_find?]
theorem has_any (A : Option Addr) (n cap : Nat) (L : List Pp) (id : Int) (w : World) (hn : L.length = n) (hm : n ≤ 1048576) (h : PRow w A L) :
    Calls Tryd.prog 94 #[.slice A n cap, .int .i64 id] w fun e w' => e = .returned (.bool (L.any (fun p => p.id == id) && (id != 38))) ∧ Below w.heap.size w w' := by
  have C := find_any A n cap L id w hn hm h
  rw [fnd_some] at C
  obtain ⟨ok, hok⟩ : ∃ ok, L.any (fun p => p.id == id) = ok := ⟨_, rfl⟩
  rw [hok] at C ⊢
  obtain ⟨⟨pi, pn, ps, pt⟩, hp⟩ : ∃ p, (fnd L id).getD zP = p := ⟨_, rfl⟩
  rw [hp] at C
  unfold ppV ppA at C
  have C := Lib.hid C
  clear hn hm h hok hp
  cases ok
  · go_enter Tryd.func94, Tryd.ntmps94
    go_wp2_with fail
    refine C.out.mono ?_
    rintro e w1 ⟨rfl, b1⟩
    go_wp2
    go_ret
    exact ⟨rfl, b1.alloc b1.size _⟩
  · go_enter Tryd.func94, Tryd.ntmps94
    go_wp2_with fail
    refine C.out.mono ?_
    rintro e w1 ⟨rfl, b1⟩
    go_wp2
    go_ret
    exact ⟨rfl, b1.alloc b1.size _⟩
set_option maxRecDepth 100000 in
set_option maxHeartbeats 2000000 in
theorem value_any (p : Pp) (w : World) (hz : p.fits) (hT : Tabs w) :
    Calls Tryd.prog 95 #[.agg #[.int .i64 p.id, .int .i64 p.n, .string p.s, .string p.t]] w fun e w' => ∃ v, e = .returned (.tuple #[.string v, .int .u8 (pvC p)]) ∧ (pvC p = 0 → v = pvS p) ∧ Below w.heap.size w w' := by
  obtain ⟨z1, z2, _⟩ := hz
  obtain ⟨k, hk⟩ : ∃ k, kindOf p.id = k := ⟨_, rfl⟩
  have CK : ∀ X : World, Calls Tryd.prog 93 #[.int .i64 p.id] X fun e w' => e = .returned (.int .i64 k) ∧ X = w' := fun X => by rw [← hk]; exact kind_any p.id X
  have b0 : Below w.heap.size w (w.alloc (.cells #[.int .i64 p.id, .int .i64 p.n, .string p.s, .string p.t] 123)) := (Below.refl _ _).alloc (Nat.le_refl _) _
  have hS : S4b (w.alloc (.cells #[.int .i64 p.id, .int .i64 p.n, .string p.s, .string p.t] 123)) w.heap.size p := ⟨World.cell?_alloc_at _ _ _ _ rfl, World.cell?_alloc_at _ _ _ _ rfl, World.cell?_alloc_at _ _ _ _ rfl, World.cell?_alloc_at _ _ _ _ rfl⟩
  have hl : w.heap.size < (w.alloc (.cells #[.int .i64 p.id, .int .i64 p.n, .string p.s, .string p.t] 123)).heap.size := by simp
  obtain ⟨W, hW⟩ : ∃ W, w.alloc (.cells #[.int .i64 p.id, .int .i64 p.n, .string p.s, .string p.t] 123) = W := ⟨_, rfl⟩
  rw [hW] at b0 hS hl
  have CK := Lib.hid CK
  have HW := Lib.hid hW
  have B0 := Lib.hid b0
  have HT := Lib.hid (hT.below b0)
  have HK := Lib.hid hk
  obtain ⟨s0, s1, s2, s3⟩ := hS
  obtain ⟨c, hc⟩ : ∃ c, pvC p = c := ⟨_, rfl⟩
  have hc2 := hc
  unfold pvC at hc2
  rw [hk] at hc2
  rw [hc]
  clear hc hk hW b0 hT
  by_cases h4 : k = 4
  · subst h4
    obtain rfl : putC p.n = c := hc2
    have HS : Hid ((⟨(enc p.n).toArray⟩ : ByteArray) = pvS p) := Lib.hid (by unfold pvS; rw [HK.out]; rfl)
    go_enter Tryd.func95, Tryd.ntmps95
    go_wp2_with fail
    rw [HW.out]
    refine (CK.out W).mono ?_
    rintro e w1 ⟨rfl, rfl⟩
    go_wp2_with fail
    refine (put_all p.n _).mono ?_
    rintro e w2 ⟨rfl, b2⟩
    go_wp2
    go_ret2
    exact ⟨_, rfl, fun _ => HS.out, B0.out.trans (b2.mono B0.out.size)⟩
  · by_cases h5 : k = 5
    · subst h5
      obtain rfl : dataC p.s = c := hc2
      have HS : Hid (dataS p.s = pvS p) := Lib.hid (by unfold pvS; rw [HK.out]; rfl)
      go_enter Tryd.func95, Tryd.ntmps95
      go_wp2_with fail
      rw [HW.out]
      refine (CK.out W).mono ?_
      rintro e w1 ⟨rfl, rfl⟩
      go_wp2_with fail
      refine (data_all p.s _ z1).mono ?_
      rintro e w2 ⟨rfl, b2⟩
      go_wp2
      go_ret2
      exact ⟨_, rfl, fun _ => HS.out, B0.out.trans (b2.mono B0.out.size)⟩
    · by_cases h6 : k = 6
      · subst h6
        obtain rfl : tputC p.s = c := hc2
        have HS : Hid (tputS p.s = pvS p) := Lib.hid (by unfold pvS; rw [HK.out]; rfl)
        go_enter Tryd.func95, Tryd.ntmps95
        go_wp2_with fail
        rw [HW.out]
        refine (CK.out W).mono ?_
        rintro e w1 ⟨rfl, rfl⟩
        go_wp2_with fail
        refine (tput_any p.s _ z1 HT.out).mono ?_
        rintro e w2 ⟨rfl, b2⟩
        go_wp2
        go_ret2
        exact ⟨_, rfl, fun _ => HS.out, B0.out.trans (b2.mono B0.out.size)⟩
      · by_cases h7 : k = 7
        · subst h7
          have HS : Hid (tputS p.s ++ tputS p.t = pvS p) := Lib.hid (by unfold pvS; rw [HK.out]; rfl)
          have q1 := tputS_small p.s
          have q2 := tputS_small p.t
          have hc3 : (if tputC p.s = 0 then tputC p.t else tputC p.s) = c := hc2
          have C1 := tput_any p.s W z1 HT.out
          have C2 : ∀ X, Tabs X → Calls Tryd.prog 90 #[.string p.t] X fun e w' => e = .returned (.tuple #[.string (tputS p.t), .int .u8 (tputC p.t)]) ∧ Below X.heap.size X w' := fun X h => tput_any p.t X z2 h
          obtain ⟨u1, hu1⟩ : ∃ u, tputS p.s = u := ⟨_, rfl⟩
          obtain ⟨u2, hu2⟩ : ∃ u, tputS p.t = u := ⟨_, rfl⟩
          obtain ⟨d1, hd1⟩ : ∃ u, tputC p.s = u := ⟨_, rfl⟩
          obtain ⟨d2, hd2⟩ : ∃ u, tputC p.t = u := ⟨_, rfl⟩
          rw [hu1] at HS q1 C1
          rw [hu2] at HS q2 C2
          rw [hd1] at C1 hc3
          rw [hd2] at C2 hc3
          have C1 := Lib.hid C1
          have C2 := Lib.hid C2
          have s3' : W.cell? ⟨w.heap.size, 3, none⟩ = some (.string p.t) := s3
          clear hu1 hu2 hd1 hd2 hc2
          by_cases h0 : d1 = 0
          · subst h0
            rw [if_pos rfl] at hc3
            subst hc3
            go_enter Tryd.func95, Tryd.ntmps95
            go_wp2_with fail
            rw [HW.out]
            refine (CK.out W).mono ?_
            rintro e w1 ⟨rfl, rfl⟩
            go_wp2_with fail
            refine C1.out.mono ?_
            rintro e w2 ⟨rfl, b2⟩
            have t3 := (b2.cell (p := ⟨w.heap.size, 3, none⟩) hl).trans s3
            have HT2 := Lib.hid (HT.out.below b2)
            go_wp2_with fail
            refine (C2.out _ HT2.out).mono ?_
            rintro e w3 ⟨rfl, b3⟩
            go_wp2
            go_ret2
            exact ⟨_, rfl, fun _ => HS.out, B0.out.trans ((b2.trans (b3.mono b2.size)).mono B0.out.size)⟩
          · rw [if_neg h0] at hc3
            subst hc3
            have e0 : (d1 == 0) = false := by rw [beq_eq_false_iff_ne]; exact h0
            have e1 : (d1 != 0) = true := by rw [bne, e0]; rfl
            go_enter Tryd.func95, Tryd.ntmps95
            go_wp2_with fail
            rw [HW.out]
            refine (CK.out W).mono ?_
            rintro e w1 ⟨rfl, rfl⟩
            go_wp2_with fail
            refine C1.out.mono ?_
            rintro e w2 ⟨rfl, b2⟩
            go_wp2
            go_ret2
            exact ⟨_, rfl, fun h => absurd h h0, B0.out.trans (b2.mono B0.out.size)⟩
        · have HS : Hid ((⟨(fixS (wid k) p.n).toArray⟩ : ByteArray) = pvS p) := Lib.hid (by unfold pvS; rw [HK.out, if_neg h4, if_neg h5, if_neg h6, if_neg h7])
          obtain rfl : fixC (wid k) p.n = c := by rw [← hc2, if_neg h4, if_neg h5, if_neg h6, if_neg h7]
          have e4 : (k == 4) = false := by rw [beq_eq_false_iff_ne]; exact h4
          have e5 : (k == 5) = false := by rw [beq_eq_false_iff_ne]; exact h5
          have e6 : (k == 6) = false := by rw [beq_eq_false_iff_ne]; exact h6
          have e7 : (k == 7) = false := by rw [beq_eq_false_iff_ne]; exact h7
          clear h4 h5 h6 h7
          go_enter Tryd.func95, Tryd.ntmps95
          go_wp2_with fail
          rw [HW.out]
          refine (CK.out W).mono ?_
          rintro e w1 ⟨rfl, rfl⟩
          go_wp2_with fail
          have s1d : W.drew.cell? ⟨w.heap.size, 1, none⟩ = some (.int .i64 p.n) := s1
          have bd : Below W.heap.size W W.drew := (Below.refl _ _).drew
          have hld : w.heap.size < W.drew.heap.size := hl
          go_region_held3 (fun X => X.cell? ⟨w.heap.size, 1, none⟩ = some (.int .i64 p.n)) (first | (with_reducible assumption) | exact s1 | exact s1d | exact y3) (first | (go_at_call 111; refine (width_any k _).mono ?_; rintro e w2 ⟨rfl, rfl⟩) | (go_at_call 28; refine (fixed_all (wid k) p.n _).mono ?_; rintro e w3 ⟨rfl, b3⟩; have y3 : w3.cell? ⟨w.heap.size, 1, none⟩ = some (.int .i64 p.n) := (b3.cell (p := ⟨w.heap.size, 1, none⟩) hld).trans s1d) | (fail))
          all_goals go_wp2
          all_goals
            go_ret2
            exact ⟨_, rfl, fun _ => HS.out, B0.out.trans ((bd.trans (b3.mono bd.size)).mono B0.out.size)⟩
end Go.Proofs.YtedapgeabpadaaaDoor
