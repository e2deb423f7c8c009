/- Parts of the proof, joined: StrF, StrT, StrW, RgP, RgA, Rg0. -/
import Derived.Test.YtedapgeabpadaaaDoorJ6P10
import Derived.Deep.DeepCutAuto
import Derived.Laws.CopyOwn
import Derived.Test.YtedapgeabpadaaaDoorJ6P8
import Derived.Test.YtedapgeabpadaaaDoorJ6P2
import Derived.Deep.MidRow
import Derived.Test.YtedapgeabpadaaaDoorJ6P5
import Derived.Test.YtedapgeabpadaaaDoorJ6P3
namespace Go.Proofs.YtedapgeabpadaaaDoor
set_option linter.unusedVariables false
open Go.RowKit Pl Go.Shelf Go.PlainAid

theorem gets_take_ok {l : List ByteArray} {i : Nat} {b : ByteArray} {p : Pk} (h : l[i]? = some b) (h0 : (getsP (l.take i)).2 = 0) (hb : pkGet b = (p, 0)) : (getsP (l.take (i + 1))).1 = (getsP (l.take i)).1 ++ [p] ∧ (getsP (l.take (i + 1))).2 = 0 := by
  have e : l.take (i + 1) = l.take i ++ [b] := by rw [List.take_add_one, h]; rfl
  rw [e, (gets_app [b] (l.take i)).1 h0, gets_ok hb]
  exact ⟨rfl, rfl⟩
theorem gets_take_bad {l : List ByteArray} {i : Nat} {b : ByteArray} {p : Pk} {c : Int} (h : l[i]? = some b) (h0 : (getsP (l.take i)).2 = 0) (hb : pkGet b = (p, c)) (hc : c ≠ 0) : (getsP l).1 = (getsP (l.take i)).1 ∧ (getsP l).2 = c := by
  have hi : i < l.length := (List.getElem?_eq_some_iff.1 h).1
  have e : l = l.take i ++ (b :: l.drop (i + 1)) := by
    conv => lhs; rw [← List.take_append_drop i l]
    congr 1
    rw [List.drop_eq_getElem_cons hi]
    congr 1
    exact (List.getElem?_eq_some_iff.1 h).2
  have h1 := (gets_app (b :: l.drop (i + 1)) (l.take i)).1 h0
  rw [← e, gets_bad hb hc] at h1
  rw [h1]
  exact ⟨by simp, rfl⟩
theorem split_mem (most : Int) : ∀ (f : Nat) (s : ByteArray), (splitF most f s).1.length ≤ s.size ∧ ∀ b ∈ (splitF most f s).1, b.size ≤ s.size := by
  intro f
  induction f with
  | zero => intro s; exact ⟨Nat.zero_le _, fun b hb => by simp [splitF] at hb⟩
  | succ f ih =>
    intro s
    by_cases h0 : s.size = 0
    · rw [split_end h0]; exact ⟨Nat.zero_le _, fun b hb => by simp at hb⟩
    · unfold splitF
      rw [if_neg h0]
      split
      · exact ⟨Nat.zero_le _, fun b hb => by simp at hb⟩
      · split
        · exact ⟨Nat.zero_le _, fun b hb => by simp at hb⟩
        · rename_i hc2 hc0
          split
          · exact ⟨Nat.zero_le _, fun b hb => by simp at hb⟩
          · split
            · exact ⟨Nat.zero_le _, fun b hb => by simp at hb⟩
            · obtain ⟨⟨v, e, c⟩, hv⟩ : ∃ x, getV s 1 = x := ⟨_, rfl⟩
              rw [hv] at hc0
              have hc0 : c = 0 := Classical.byContradiction hc0
              subst hc0
              obtain ⟨m, k, rfl, rfl, k2, _, _, _⟩ := get1 (by omega) hv
              rw [hv]
              obtain ⟨i1, i2⟩ := ih (s.extract ((k : Int) + (m : Int)).toNat s.size)
              have hz : (s.extract ((k : Int) + (m : Int)).toNat s.size).size = s.size - (k + m) := by rw [ByteArray.size_extract]; omega
              refine ⟨by simp only [List.length_cons]; omega, fun b hb => ?_⟩
              rcases List.mem_cons.1 hb with rfl | hb
              · rw [ByteArray.size_extract]; omega
              · have := i2 b hb; omega
theorem split_shape {w w1 : World} {v : Value} {l : List ByteArray} (o : w1.ownsRow w.heap.size 9 1 v l.length (l.map Value.string)) (b : Below w.heap.size w w1) :
    ∃ a1 c1, v = .slice a1 l.length c1 ∧ Hid (Sl w.heap.size w1 9 1 v l.length (l.map Value.string)) ∧ Hid (Below w.heap.size w w1) := by
  have s := Sl.of_own o
  obtain ⟨a1, c1, h, _⟩ := s.form
  exact ⟨a1, c1, h, Lib.hid s, Lib.hid b⟩
def FeedPost (w : World) (R : Nat) (most : Int) (x : ByteArray) (e : Ending) (w' : World) : Prop :=
  ∃ v, e = .returned (.tuple #[v, .int .u8 (feedC most x)]) ∧ PksAt w.heap.size w' v (feedL most x) ∧ Blk w' R (srA most (feedR most x) (feedC most x)) 72 ∧ Mod (· = R) w w'
set_option maxRecDepth 100000 in
set_option maxHeartbeats 4000000 in
theorem sfeed_any (R : Nat) (most : Int) (left s : ByteArray) (w : World) (hb : Blk w R (srA most left 0) 72) (h0 : -9223372036854775808 ≤ most) (h1 : most ≤ 9223372036854775807) (hs : left.size + s.size ≤ 1048576) (hT : Tabs w) :
    Calls Tryd.prog 9 #[.pointer (some ⟨R, 0, none⟩), .string s] w (FeedPost w R most (left ++ s)) := by
  have hx : (left ++ s).size ≤ 1048576 := by rw [ByteArray.size_append]; omega
  obtain ⟨x, hxx⟩ : ∃ x, left ++ s = x := ⟨_, rfl⟩
  rw [hxx] at hx ⊢
  have hm := split_mem most x.size x
  have CS : ∀ X : World, Calls Tryd.prog 16 #[.string x, .int .i64 most] X _ := fun X => split_any x most X hx h0 h1
  obtain ⟨⟨l, rest, c0⟩, hl⟩ : ∃ y, splitF most x.size x = y := ⟨_, rfl⟩
  rw [hl] at CS hm
  obtain ⟨hll, hlb⟩ := hm
  simp only at CS hll hlb
  have hsp : sp most x = (l, rest, c0) := hl
  have CS := Lib.hid CS
  have HSP := Lib.hid hsp
  have HLB := Lib.hid hlb
  have HB := Lib.hid hb
  have HT := Lib.hid hT
  have r0 : w.cell? ⟨R, 0, none⟩ = some (.int .i64 most) := hb.cell 0
  have r1 : w.cell? ⟨R, 1, none⟩ = some (.string left) := hb.cell 1
  have r2 : w.cell? ⟨R, 2, none⟩ = some (.int .u8 0) := hb.cell 2
  have hadd : ¬ 9223372036854775807 < left.size + s.size := by omega
  clear hsp hlb hb hT hl h0 h1
  go_enter Tryd.func9, Tryd.ntmps9
  go_wp2
  go_upto_region 5 with fail
  go_cut [6, 7, 8] (fun a b c X => b = .string rest ∧ c = .int .u8 c0 ∧ ∃ a1 c1, a = .slice a1 l.length c1 ∧ Hid (Sl w.heap.size X 9 1 a l.length (l.map Value.string)) ∧ Hid (Below w.heap.size w X))
  case first =>
    go_region_with (go_at_call 16; (with_reducible refine (CS.out _).mono ?_); rintro e w1 ⟨v1, rfl, o1, b1⟩; have HO := Lib.hid (split_shape (w := w) o1 ⟨b1.os, b1.tape, b1.output, b1.size, b1.block⟩); clear o1 b1)
    all_goals go_wp2
    all_goals go_meet
    all_goals exact ⟨rfl, rfl, HO.out⟩
  obtain ⟨rfl, rfl, a1, c1, rfl, HS1, HB1⟩ := hcut
  clear r0 r1 r2
  go_wp2_with fail
  go_loopw [8, 9, 44] (fun cv ov iv wr => ∃ (i : Nat), iv = .int .i64 i ∧ cv = .int .u8 c0 ∧ i ≤ l.length ∧ Hid (PksAt w.heap.size wr ov (getsP (l.take i)).1) ∧ Hid ((getsP (l.take i)).2 = 0) ∧ Hid (Sl w.heap.size wr 9 1 (.slice a1 l.length c1) l.length (l.map Value.string)) ∧ Hid (Below w.heap.size w wr)) (fun _ _ iv _ => ((l.length : Int) - intOf iv).toNat)
  case atStart => exact ⟨0, rfl, rfl, Nat.zero_le _, Lib.hid (PksAt.nil _ _), Lib.hid rfl, HS1, HB1⟩
  case round =>
    obtain ⟨i, rfl, rfl, hi, hP, hG, hS, hBw⟩ := hrel
    by_cases hil : i < l.length
    · obtain ⟨b, hbl⟩ : ∃ b, l[i]? = some b := ⟨_, List.getElem?_eq_getElem hil⟩
      have hbz : b.size ≤ 140737488351232 := by have := HLB.out b (List.mem_of_getElem? hbl); omega
      obtain ⟨g, o, cap, ea, _, _, _, _, hcl⟩ := hS.out.at (by omega)
      injection ea with ea1 ea2 ea3
      subst ea1
      have hcell := hcl i (.string b) (by rw [List.getElem?_map, hbl]; rfl)
      have HTr := Lib.hid (HT.out.below hBw.out)
      obtain ⟨⟨r, c⟩, hg⟩ : ∃ y, pkGet b = y := ⟨_, rfl⟩
      have CG : Calls Tryd.prog 17 #[.string b] wr (GkPost wr (r, c)) := by rw [← hg]; exact pkget_any b wr hbz HTr.out
      have CG := Lib.hid CG
      have HG := Lib.hid hg
      have HBL := Lib.hid hbl
      have hiI : (i : Int) < (l.length : Int) := by omega
      clear hcl hg hbl hbz ea2 ea3
      go_wp2_with fail
      refine CG.out.mono ?_
      rintro e V ⟨m, rfl, ho, bv⟩
      simp only at ho
      obtain ⟨Y, hY⟩ : ∃ Y, V.alloc (.cells #[.int .i64 0, .bool false, .bool false, .int .i64 0, .int .i64 0, .string ⟨#[]⟩, .string ⟨#[]⟩, .int .u8 0, .slice none 0 0, .slice none 0 0, .string ⟨#[]⟩, .bool false, .int .i64 0, .bool false, .string ⟨#[]⟩, .string ⟨#[]⟩, .int .i64 0, .bool false, .slice none 0 0, .bool false, .bool false, .string ⟨#[]⟩, .string ⟨#[]⟩, .bool false, .slice none 0 0, .slice none 0 0] 45) = Y := ⟨_, rfl⟩
      have hy : Blk Y V.heap.size #[.int .i64 0, .bool false, .bool false, .int .i64 0, .int .i64 0, .string ⟨#[]⟩, .string ⟨#[]⟩, .int .u8 0, .slice none 0 0, .slice none 0 0, .string ⟨#[]⟩, .bool false, .int .i64 0, .bool false, .string ⟨#[]⟩, .string ⟨#[]⟩, .int .i64 0, .bool false, .slice none 0 0, .bool false, .bool false, .string ⟨#[]⟩, .string ⟨#[]⟩, .bool false, .slice none 0 0, .slice none 0 0] 45 := by rw [← hY]; exact Blk.new _ _ _
      have by_ : Below V.heap.size V Y := by rw [← hY]; exact (Below.refl _ _).alloc (Nat.le_refl _) _
      obtain ⟨Z, hZ⟩ : ∃ Z, Y.setRow V.heap.size (pkA .u8 r m) = Z := ⟨_, rfl⟩
      have hz : Blk Z V.heap.size (pkA .u8 r m) 45 := by rw [← hZ]; exact hy.row0 _
      have bz : Below V.heap.size V Z := by rw [← hZ]; exact below_setRow by_ (Nat.le_refl _) _
      have HY := Lib.hid hy
      have HZ := Lib.hid hz
      have HW : Hid (Blk (Y.setRow V.heap.size (pkA .u8 r m)) V.heap.size (pkA .u8 r m) 45) := Lib.hid (by rw [hZ]; exact hz)
      have hwr : w.heap.size ≤ wr.heap.size := hBw.out.size
      have bvz : Below wr.heap.size wr Z := bv.trans (bz.mono bv.size)
      have HBZ := Lib.hid (hBw.out.trans (bvz.mono hwr))
      have HPZ := Lib.hid (hP.out.below bvz)
      have HSZ := Lib.hid (hS.out.below bvz)
      have HOZ := Lib.hid ((ho.mono hwr).below bz)
      have hBs : w.heap.size ≤ Z.heap.size := HBZ.out.size
      clear ho bv hy by_ hz bz bvz hP hS hBw HTr hwr hcell
      by_cases hc : c = 0
      · subst hc
        have hk := gets_take_ok HBL.out hG.out HG.out
        have HK := Lib.hid hk
        have hlen : (getsP (l.take i)).1.length ≤ 1048576 := by have := gets_len (l.take i); rw [List.length_take] at this; omega
        obtain ⟨U, hU⟩ : ∃ U, Z.alloc (.cells (pkA .u8 r m) 45) = U := ⟨_, rfl⟩
        have hub : Blk U Z.heap.size (pkA .u8 r m) 45 := by rw [← hU]; exact Blk.new _ _ _
        have bu : Below Z.heap.size Z U := by rw [← hU]; exact (Below.refl _ _).alloc (Nat.le_refl _) _
        have HU := Lib.hid hU
        have HUB := Lib.hid hub
        have HPU := Lib.hid (HPZ.out.below bu)
        have HOU := Lib.hid (HOZ.out.below bu)
        have HSU := Lib.hid (HSZ.out.below bu)
        have HBU := Lib.hid (HBZ.out.trans (bu.mono hBs))
        have hBu : w.heap.size ≤ U.heap.size := HBU.out.size
        clear hk hU hub bu hG HBL HG HPZ HOZ HSZ HBZ hil
        go_wp2_with (first | (refine wpList_store_rowTo rfl 45 (.tmp 12) (.tmp 51) rfl rfl V.heap.size (pkA .u8 r m) rfl rfl 45 #[.int .i64 0, .bool false, .bool false, .int .i64 0, .int .i64 0, .string ⟨#[]⟩, .string ⟨#[]⟩, .int .u8 0, .slice none 0 0, .slice none 0 0, .string ⟨#[]⟩, .bool false, .int .i64 0, .bool false, .string ⟨#[]⟩, .string ⟨#[]⟩, .int .i64 0, .bool false, .slice none 0 0, .bool false, .bool false, .string ⟨#[]⟩, .string ⟨#[]⟩, .bool false, .slice none 0 0, .slice none 0 0] HY.out gpk_size rfl (pkA_one _ _) ?_) | (refine wpList_load_row rfl 45 (.tmp 12) rfl V.heap.size rfl 45 (pkA .u8 r m) (0, 0) _ HZ.out Tryd.underlying45 rfl gpk_size ?_) | (refine wpList_load_row rfl 45 (.tmp 12) rfl V.heap.size rfl 45 (pkA .u8 r m) (0, 0) _ HW.out Tryd.underlying45 rfl gpk_size ?_) | (refine wpList_spkS (.tmp 57) (pkA .u8 r m) rfl rfl rfl rfl U HU.out ?_) | (refine wpList_spks (.tmp 56) (.tmp 58) w.heap.size _ (getsP (l.take i)).1 r m Z.heap.size rfl rfl rfl rfl HPU.out HOU.out HUB.out hBu hlen ?_; intro ov' wf hpf hgf hof) | (fail))
        have hsf := HSU.out.grown hgf (fun k hk hk2 => by
          obtain ⟨cu1, e1⟩ := HSU.out.obj k _ hk (Array.getElem?_eq_getElem (HSU.out.lt k hk).2)
          obtain ⟨cu2, e2⟩ := (hof k hk2).2 _ (Array.getElem?_eq_getElem (HSU.out.lt k hk).2)
          rw [e1] at e2
          injection e2 with _ e3 _
          exact absurd e3 (by decide))
        have hbf : Below w.heap.size w wf := HBU.out.grown hgf hBu (fun k hk => (hof k hk).1)
        have HPF : Hid (PksAt w.heap.size wf ov' (getsP (l.take (i + 1))).1) := Lib.hid (by rw [HK.out.1]; exact hpf)
        have HGF : Hid ((getsP (l.take (i + 1))).2 = 0) := Lib.hid HK.out.2
        have HSF := Lib.hid hsf
        have HBF := Lib.hid hbf
        clear hsf hbf hpf hgf hof HU HUB HPU HOU HSU HBU hBu HY HZ HW HK
        go_wp2
        go_roundw
        case rel => exact ⟨i + 1, by go_num, rfl, by omega, HPF, HGF, HSF, HBF⟩
        case measure => simp [intOf]; omega
      · have hbad := gets_take_bad HBL.out hG.out HG.out hc
        have HBAD := Lib.hid hbad
        have z0 : (c == 0) = false := beq_eq_false_iff_ne.2 hc
        have z1 : (c != 0) = true := by rw [bne, z0]; rfl
        have HC0 := Lib.hid hc
        clear hbad hc hG HBL HG
        have hRl := HB.out.lt
        have hbx := HB.out.of_below HBZ.out
        obtain ⟨X1, hX1⟩ : ∃ X1, Z.setCell ⟨R, 1, none⟩ (.string rest) = X1 := ⟨_, rfl⟩
        have hb1 : Blk X1 R (srA most rest 0) 72 := by rw [← hX1]; exact hbx.set 1 _
        have hm1 : Mod (· = R) w X1 := by rw [← hX1]; exact (Mod.of_below HBZ.out : Mod (· = R) w Z).setCell (p := ⟨R, 1, none⟩) (.inl rfl) _
        have hp1 := HPZ.out.setR hRl 1 (.string rest)
        rw [hX1] at hp1
        obtain ⟨X2, hX2⟩ : ∃ X2, X1.setCell ⟨R, 2, none⟩ (.int .u8 c) = X2 := ⟨_, rfl⟩
        have hb2 : Blk X2 R (srA most rest c) 72 := by rw [← hX2]; exact hb1.set 2 _
        have hm2 : Mod (· = R) w X2 := by rw [← hX2]; exact hm1.setCell (p := ⟨R, 2, none⟩) (.inl rfl) _
        have hp2 := hp1.setR hRl 2 (.int .u8 c)
        rw [hX2] at hp2
        have x1 : Z.cell? ⟨R, 1, none⟩ = some (.string left) := hbx.cell 1
        have y1 := hbx.frozen 1
        have x2 : X1.cell? ⟨R, 2, none⟩ = some (.int .u8 0) := hb1.cell 2
        have y2 := hb1.frozen 2
        obtain ⟨X3, hX3⟩ : ∃ X3, X2.setCell ⟨R, 1, none⟩ (.string ⟨#[]⟩) = X3 := ⟨_, rfl⟩
        have hb3 : Blk X3 R (srA most ⟨#[]⟩ c) 72 := by rw [← hX3]; exact hb2.set 1 _
        have hm3 : Mod (· = R) w X3 := by rw [← hX3]; exact hm2.setCell (p := ⟨R, 1, none⟩) (.inl rfl) _
        have hp3 := hp2.setR hRl 1 (.string ⟨#[]⟩)
        rw [hX3] at hp3
        have x3 : X2.cell? ⟨R, 1, none⟩ = some (.string rest) := hb2.cell 1
        have y3 := hb2.frozen 1
        have H3 := Lib.hid (And.intro hb3 (And.intro hm3 hp3))
        clear hb3 hm3 hp3
        clear hbx hb1 hm1 hp1 hb2 hm2 hp2 hRl
        go_wp2_with (first | (refine wpList_store_rowTo rfl 45 (.tmp 12) (.tmp 51) rfl rfl V.heap.size (pkA .u8 r m) rfl rfl 45 #[.int .i64 0, .bool false, .bool false, .int .i64 0, .int .i64 0, .string ⟨#[]⟩, .string ⟨#[]⟩, .int .u8 0, .slice none 0 0, .slice none 0 0, .string ⟨#[]⟩, .bool false, .int .i64 0, .bool false, .string ⟨#[]⟩, .string ⟨#[]⟩, .int .i64 0, .bool false, .slice none 0 0, .bool false, .bool false, .string ⟨#[]⟩, .string ⟨#[]⟩, .bool false, .slice none 0 0, .slice none 0 0] HY.out gpk_size rfl (pkA_one _ _) ?_) | (fail))
        go_ret2
        have ec : feedC most x = c := by unfold feedC; rw [HSP.out]; simp only; rw [HBAD.out.2, if_pos HC0.out]
        have el : feedL most x = (getsP (l.take i)).1 := by unfold feedL; rw [HSP.out]; exact HBAD.out.1
        have er : feedR most x = ⟨#[]⟩ := by unfold feedR; rw [ec, if_pos HC0.out]
        exact ⟨_, by rw [ec]; rfl, by rw [el]; exact H3.out.2.2, by rw [ec, er]; exact H3.out.1, H3.out.2.1⟩
    · obtain rfl : i = l.length := by omega
      have hnn : ¬ ((l.length : Int) < (l.length : Int)) := by omega
      by_cases hc0 : c0 = 0
      · subst hc0
        have hRl := HB.out.lt
        have hbx := HB.out.of_below hBw.out
        obtain ⟨X1, hX1⟩ : ∃ X1, wr.setCell ⟨R, 1, none⟩ (.string rest) = X1 := ⟨_, rfl⟩
        have hb1 : Blk X1 R (srA most rest 0) 72 := by rw [← hX1]; exact hbx.set 1 _
        have hm1 : Mod (· = R) w X1 := by rw [← hX1]; exact (Mod.of_below hBw.out : Mod (· = R) w wr).setCell (p := ⟨R, 1, none⟩) (.inl rfl) _
        have hp1 := hP.out.setR hRl 1 (.string rest)
        rw [hX1] at hp1
        obtain ⟨X2, hX2⟩ : ∃ X2, X1.setCell ⟨R, 2, none⟩ (.int .u8 0) = X2 := ⟨_, rfl⟩
        have hb2 : Blk X2 R (srA most rest 0) 72 := by rw [← hX2]; exact hb1.set 2 _
        have hm2 : Mod (· = R) w X2 := by rw [← hX2]; exact hm1.setCell (p := ⟨R, 2, none⟩) (.inl rfl) _
        have hp2 := hp1.setR hRl 2 (.int .u8 0)
        rw [hX2] at hp2
        have x1 : wr.cell? ⟨R, 1, none⟩ = some (.string left) := hbx.cell 1
        have y1 := hbx.frozen 1
        have x2 : X1.cell? ⟨R, 2, none⟩ = some (.int .u8 0) := hb1.cell 2
        have y2 := hb1.frozen 2
        have H3 := Lib.hid (And.intro hb2 (And.intro hm2 hp2))
        clear hbx hb1 hm1 hp1 hb2 hm2 hp2 hRl
        go_wp2
        go_ret2
        have hg0 := hG.out
        rw [List.take_length] at hg0
        have ec : feedC most x = 0 := by unfold feedC; rw [HSP.out]; simp only; rw [hg0]; rfl
        have el : feedL most x = (getsP (l.take l.length)).1 := by unfold feedL; rw [HSP.out, List.take_length]
        have er : feedR most x = rest := by unfold feedR; rw [ec, HSP.out]; rfl
        exact ⟨_, by rw [ec]; rfl, by rw [el]; exact H3.out.2.2, by rw [ec, er]; exact H3.out.1, H3.out.2.1⟩
      · have z0 : (c0 == 0) = false := beq_eq_false_iff_ne.2 hc0
        have z1 : (c0 != 0) = true := by rw [bne, z0]; rfl
        have HC0 := Lib.hid hc0
        clear hc0
        have hRl := HB.out.lt
        have hbx := HB.out.of_below hBw.out
        obtain ⟨X1, hX1⟩ : ∃ X1, wr.setCell ⟨R, 1, none⟩ (.string rest) = X1 := ⟨_, rfl⟩
        have hb1 : Blk X1 R (srA most rest 0) 72 := by rw [← hX1]; exact hbx.set 1 _
        have hm1 : Mod (· = R) w X1 := by rw [← hX1]; exact (Mod.of_below hBw.out : Mod (· = R) w wr).setCell (p := ⟨R, 1, none⟩) (.inl rfl) _
        have hp1 := hP.out.setR hRl 1 (.string rest)
        rw [hX1] at hp1
        obtain ⟨X2, hX2⟩ : ∃ X2, X1.setCell ⟨R, 2, none⟩ (.int .u8 c0) = X2 := ⟨_, rfl⟩
        have hb2 : Blk X2 R (srA most rest c0) 72 := by rw [← hX2]; exact hb1.set 2 _
        have hm2 : Mod (· = R) w X2 := by rw [← hX2]; exact hm1.setCell (p := ⟨R, 2, none⟩) (.inl rfl) _
        have hp2 := hp1.setR hRl 2 (.int .u8 c0)
        rw [hX2] at hp2
        have x1 : wr.cell? ⟨R, 1, none⟩ = some (.string left) := hbx.cell 1
        have y1 := hbx.frozen 1
        have x2 : X1.cell? ⟨R, 2, none⟩ = some (.int .u8 0) := hb1.cell 2
        have y2 := hb1.frozen 2
        obtain ⟨X3, hX3⟩ : ∃ X3, X2.setCell ⟨R, 1, none⟩ (.string ⟨#[]⟩) = X3 := ⟨_, rfl⟩
        have hb3 : Blk X3 R (srA most ⟨#[]⟩ c0) 72 := by rw [← hX3]; exact hb2.set 1 _
        have hm3 : Mod (· = R) w X3 := by rw [← hX3]; exact hm2.setCell (p := ⟨R, 1, none⟩) (.inl rfl) _
        have hp3 := hp2.setR hRl 1 (.string ⟨#[]⟩)
        rw [hX3] at hp3
        have x3 : X2.cell? ⟨R, 1, none⟩ = some (.string rest) := hb2.cell 1
        have y3 := hb2.frozen 1
        have H3 := Lib.hid (And.intro hb3 (And.intro hm3 hp3))
        clear hb3 hm3 hp3
        clear hbx hb1 hm1 hp1 hb2 hm2 hp2 hRl
        go_wp2
        go_ret2
        have hg0 := hG.out
        rw [List.take_length] at hg0
        have ec : feedC most x = c0 := by unfold feedC; rw [HSP.out]; simp only; rw [hg0]; rfl
        have el : feedL most x = (getsP (l.take l.length)).1 := by unfold feedL; rw [HSP.out, List.take_length]
        have er : feedR most x = ⟨#[]⟩ := by unfold feedR; rw [ec, if_pos HC0.out]
        exact ⟨_, by rw [ec]; rfl, by rw [el]; exact H3.out.2.2, by rw [ec, er]; exact H3.out.1, H3.out.2.1⟩
end Go.Proofs.YtedapgeabpadaaaDoor

namespace Go.Proofs.YtedapgeabpadaaaDoor
set_option linter.unusedVariables false
open Go.RowKit Pl Go.Shelf Go.PlainAid

theorem split_room (most : Int) : ∀ (f : Nat) (s : ByteArray), (splitF most f s).1.length + (splitF most f s).2.1.size ≤ s.size := by
  intro f
  induction f with
  | zero => intro s; show 0 + s.size ≤ s.size; omega
  | succ f ih =>
    intro s
    by_cases h0 : s.size = 0
    · rw [split_end h0]; show 0 + s.size ≤ s.size; omega
    · unfold splitF
      rw [if_neg h0]
      split
      · show 0 + s.size ≤ s.size; omega
      · split
        · show 0 + s.size ≤ s.size; omega
        · rename_i hc2 hc0
          split
          · show 0 + s.size ≤ s.size; omega
          · split
            · show 0 + s.size ≤ s.size; omega
            · obtain ⟨⟨v, e, c⟩, hv⟩ : ∃ x, getV s 1 = x := ⟨_, rfl⟩
              rw [hv] at hc0
              have hc0 : c = 0 := Classical.byContradiction hc0
              subst hc0
              obtain ⟨m, k, rfl, rfl, k2, _, _, _⟩ := get1 (by omega) hv
              rw [hv]
              have i1 := ih (s.extract ((k : Int) + (m : Int)).toNat s.size)
              have hz : (s.extract ((k : Int) + (m : Int)).toNat s.size).size = s.size - (k + m) := by rw [ByteArray.size_extract]; omega
              simp only [List.length_cons]
              omega
theorem feed_room (most : Int) (x : ByteArray) : (feedL most x).length + (feedR most x).size ≤ x.size := by
  have h := split_room most x.size x
  have h2 := gets_len (sp most x).1
  unfold feedL feedR
  unfold sp at h2 ⊢
  split
  · show _ + 0 ≤ _; omega
  · omega
theorem gets_fits : ∀ (l : List ByteArray), ∀ p ∈ (getsP l).1, p.fits := by
  intro l
  induction l with
  | nil => intro p hp; simp [getsP] at hp
  | cons b r ih =>
    intro p hp
    unfold getsP at hp
    split at hp
    · simp at hp
    · rcases List.mem_cons.1 hp with rfl | hp
      · exact get_fits b
      · exact ih p hp
theorem feed_fits (most : Int) (x : ByteArray) : ∀ p ∈ feedL most x, p.fits := gets_fits _
theorem PksAt.at {B : Nat} {w : World} {A : Option Addr} {n cap : Nat} {L : List Pk} (h : PksAt B w (.slice A n cap) L) {j : Nat} {p : Pk} (hj : L[j]? = some p) : ∃ g o m, A = some ⟨g, o, none⟩ ∧ w.rangeAt g (o + j * 26) (pkA .u8 p m).toList ∧ PkO B w p m := by
  obtain ⟨ms, h1, h2, h3⟩ := h
  have hl := (List.getElem?_eq_some_iff.1 hj).1
  obtain ⟨g, o, cap', e, _, _, _, _, hcl⟩ := h2.at (by omega)
  injection e with e1 _ _
  obtain ⟨m, hm⟩ : ∃ m, ms[j]? = some m := ⟨_, List.getElem?_eq_getElem (by omega)⟩
  refine ⟨g, o, m, e1, fun i v hv => ?_, h3 j p m hj hm⟩
  rw [Nat.add_assoc]
  exact hcl _ _ (pks_cells hj hm i v (by simpa using hv))
theorem PksAt.form {B : Nat} {w : World} {v : Value} {L : List Pk} (h : PksAt B w v L) : ∃ A cap, v = .slice A L.length cap ∧ L.length ≤ cap ∧ cap ≤ maxLen := by
  obtain ⟨ms, h1, h2, h3⟩ := h
  obtain ⟨ao, cap, e, h4, h5, _⟩ := h2.form
  exact ⟨ao, cap, e, h4, h5⟩
theorem PksAt.keep {B : Nat} {w w' : World} {v : Value} {L : List Pk} (h : PksAt B w v L) (hk : ∀ k, B ≤ k → k < w.heap.size → w'.heap[k]? = w.heap[k]?) : PksAt B w' v L := by
  obtain ⟨ms, h1, h2, h3⟩ := h
  have sm : ∀ (e : TypeId) (size : Nat) u n xs, Sl B w e size u n xs → Sl B w' e size u n xs := fun e size u n xs s => s.same fun k k2 => hk k (s.lt k k2).1 (s.lt k k2).2
  exact ⟨ms, h1, sm _ _ _ _ _ h2, fun i p m a b => (h3 i p m a b).same fun e size u n xs s _ => sm e size u n xs s⟩
/-- The blocks from B1 tu B2 stand. -/
def Stand (B1 B2 : Nat) (w w' : World) : Prop := ∀ k, B1 ≤ k → k < B2 → w'.heap[k]? = w.heap[k]?
theorem Stand.below {B1 B2 : Nat} {a b c : World} (h : Stand B1 B2 a b) (k : Below b.heap.size b c) (hB : B2 ≤ b.heap.size) : Stand B1 B2 a c := fun i h1 h2 => (k.block i (by omega)).trans (h i h1 h2)
theorem Stand.grown {B1 B2 : Nat} {a b c : World} {row : Option Nat} (h : Stand B1 B2 a b) (k : b.grownBy c row) (hB : B2 ≤ b.heap.size) (hr : ∀ i, row = some i → i < B1 ∨ B2 ≤ i) : Stand B1 B2 a c := fun i h1 h2 =>
  (k.block i (by omega) (fun e => by have := hr i e.symm; omega)).trans (h i h1 h2)
end Go.Proofs.YtedapgeabpadaaaDoor

set_option linter.unusedVariables false
namespace Go.Proofs.YtedapgeabpadaaaDoor
open Go.RowKit Pl Go.Shelf Go.PlainAid

def pk12 : Pk := { zPk with kind := 12 }
theorem wk_1 : feedL 100 (⟨#[]⟩ ++ ⟨#[192]⟩) = [] ∧ feedC 100 (⟨#[]⟩ ++ ⟨#[192]⟩) = 0 ∧ feedR 100 (⟨#[]⟩ ++ ⟨#[192]⟩) = ⟨#[192]⟩ := ⟨by kernel_rfl, by kernel_rfl, by kernel_rfl⟩
theorem wk_2 : feedL 100 (⟨#[192]⟩ ++ ⟨#[0, 192, 0]⟩) = [pk12, pk12] ∧ feedC 100 (⟨#[192]⟩ ++ ⟨#[0, 192, 0]⟩) = 0 := ⟨by kernel_rfl, by kernel_rfl⟩
set_option maxRecDepth 100000 in
set_option maxHeartbeats 4000000 in
theorem swakes_any (w : World) (hT : Tabs w) : Calls Tryd.prog 8 #[] w fun e w' => e = .returned (.bool true) ∧ Below w.heap.size w w' := by
  have HT := Lib.hid hT
  have HN := Lib.hid (NoTab.new hT (Nat.le_refl w.heap.size))
  clear hT
  go_enter Tryd.func8, Tryd.ntmps8
  go_wp2_with fail
  refine (snew_any 100 _).mono ?_
  rintro e w1 ⟨rfl, hb1, b1⟩
  have HB1 := Lib.hid hb1
  have BB1 := Lib.hid b1
  have HT1 := Lib.hid (HT.out.below b1)
  clear hb1 b1
  go_wp2_with fail
  refine (sfeed_any w.heap.size 100 ⟨#[]⟩ ⟨#[192]⟩ w1 HB1.out (by decide) (by decide) (by decide) HT1.out).mono ?_
  rintro e w2 ⟨v2, rfl, p2, hb2, m2⟩
  rw [wk_1.1] at p2
  rw [wk_1.2.1, wk_1.2.2] at hb2
  rw [wk_1.2.1]
  obtain ⟨A2, cap2, rfl, -, -⟩ := p2.form
  have HB2 := Lib.hid hb2
  have BB2 := Lib.hid (BB1.out.trans (m2.below BB1.out.size (fun k hk => by subst hk; exact Nat.le_refl _)))
  have HT2 := Lib.hid (tabs_mod HT1.out m2 HN.out)
  clear p2 hb2 m2
  simp only [List.length_nil]
  go_wp2_with fail
  refine (sleft_any w.heap.size 100 ⟨#[192]⟩ 0 w2 HB2.out).mono ?_
  rintro e w3 ⟨rfl, b3⟩
  have HB3 := Lib.hid (HB2.out.of_below b3)
  have BB3 := Lib.hid (BB2.out.trans (b3.mono BB2.out.size))
  have HT3 := Lib.hid (HT2.out.below b3)
  clear b3
  go_wp2_with fail
  refine (sfeed_any w.heap.size 100 ⟨#[192]⟩ ⟨#[0, 192, 0]⟩ w3 HB3.out (by decide) (by decide) (by decide) HT3.out).mono ?_
  rintro e w4 ⟨v4, rfl, p4, hb4, m4⟩
  rw [wk_2.1] at p4
  rw [wk_2.2]
  obtain ⟨A4, cap4, rfl, hc4, -⟩ := p4.form
  obtain ⟨g, o, m, rfl, hr, -⟩ := p4.at (j := 1) (p := pk12) rfl
  have x0 : w4.cell? ⟨g, o + 1 * 26 + 0, none⟩ = some (.int .i64 12) := hr 0 _ rfl
  have x0 : w4.cell? ⟨g, o + 26, none⟩ = some (.int .i64 12) := x0
  have BB4 := Lib.hid (BB3.out.trans (m4.below BB3.out.size (fun k hk => by subst hk; exact Nat.le_refl _)))
  simp only [List.length_cons, List.length_nil, Nat.zero_add, Nat.reduceAdd] at hc4 ⊢
  have hc4 : (2 : Int) ≤ (cap4 : Int) := by omega
  clear p4 hr hb4 m4
  go_wp2
  go_ret
  exact ⟨rfl, BB4.out⟩
end Go.Proofs.YtedapgeabpadaaaDoor

namespace Go.Proofs.YtedapgeabpadaaaDoor
set_option linter.unusedVariables false
open Go.RowKit Pl Go.PlainAid

/-- A place and a code. -/
abbrev Tt := Int × Int
def dFail (t : Tt) (c : Int) : Tt := if t.2 = 0 then (t.1, c) else t
def dRd {α : Type} (f : Int → RR α) (d : α) (t : Tt) : Tt × α := if t.2 ≠ 0 then ((t.1, t.2), d) else match f t.1 with
  | .ok (v, b) => ((b, 0), v)
  | .error e => ((t.1, e), d)
abbrev eS : ByteArray := ⟨#[]⟩
def dNum (s : ByteArray) (k : Int) (t : Tt) : Tt × Int := dRd (rNum s k) 0 t
def dText (s : ByteArray) (t : Tt) : Tt × ByteArray := dRd (rText s) eS t
def dData (s : ByteArray) (t : Tt) : Tt × ByteArray := dRd (rData s) eS t
def dProps (k : Int) (s : ByteArray) (t : Tt) : Tt × List Pp := dRd (rProps k s) [] t
def dId (s : ByteArray) (t : Tt) : Tt × Int := (if (dNum s 2 t).2 = 0 then dFail (dNum s 2 t).1 130 else (dNum s 2 t).1, (dNum s 2 t).2)
def sub1 (n : Int) (t : Tt) : Tt := if ¬ (n % 4 < 3 ∧ n < 64) then dFail t 129 else t
def sub2 (n : Int) (t : Tt) : Tt := if n / 16 % 4 = 3 then dFail t 130 else t
def dSub (s : ByteArray) (t : Tt) : Tt × Sb :=
  (sub2 (dNum s 1 (dText s t).1).2 (sub1 (dNum s 1 (dText s t).1).2 (dNum s 1 (dText s t).1).1), sbOf (dText s t).2 (dNum s 1 (dText s t).1).2)
def dPass (s : ByteArray) (p : Pk) (t : Tt) : Tt × Pk := if p.hasPass = true then ((dData s t).1, { p with pass := (dData s t).2 }) else (t, p)
def dUser (s : ByteArray) (p : Pk) (t : Tt) : Tt × Pk := if p.hasUser = true then dPass s { p with user := (dText s t).2 } (dText s t).1 else dPass s p t
def dWill (s : ByteArray) (p : Pk) (t : Tt) : Tt × Pk := if p.hasWill = true then
  dUser s { p with wps := (dProps 0 s t).2, wt := (dText s (dProps 0 s t).1).2, wp := (dData s (dText s (dProps 0 s t).1).1).2 } (dData s (dText s (dProps 0 s t).1).1).1 else dUser s p t
def dKeep (s : ByteArray) (p : Pk) (t : Tt) : Tt × Pk :=
  dWill s { p with keep := (dNum s 2 t).2, ps := (dProps 1 s (dNum s 2 t).1).2, client := (dText s (dProps 1 s (dNum s 2 t).1).1).2 } (dText s (dProps 1 s (dNum s 2 t).1).1).1
def con1 (n : ByteArray) (t : Tt) : Tt := if n ≠ name5 then dFail t 129 else t
def con2 (v : Int) (t : Tt) : Tt := if v ≠ 5 then dFail t 132 else t
def con3 (f : Int) (t : Tt) : Tt := if badFl f then dFail t 129 else t
def dFl (s : ByteArray) (p : Pk) (t : Tt) : Tt × Pk := dKeep s (cSet p (dNum s 1 t).2) (con3 (dNum s 1 t).2 (dNum s 1 t).1)
def dVer (s : ByteArray) (p : Pk) (t : Tt) : Tt × Pk := dFl s p (con2 (dNum s 1 t).2 (dNum s 1 t).1)
def dConn (s : ByteArray) (p : Pk) (t : Tt) : Tt × Pk := dVer s p (con1 (dText s t).2 (dText s t).1)
def ack1 (n : Int) (t : Tt) : Tt := if ¬ n < 2 then dFail t 129 else t
def dConnack (s : ByteArray) (p : Pk) (t : Tt) : Tt × Pk :=
  let x := dNum s 1 t
  let y := dNum s 1 (ack1 x.2 x.1)
  let z := dProps 2 s y.1
  (z.1, { p with session := decide (x.2 = 1), code := y.2, ps := z.2 })
def dPayl (s : ByteArray) (p : Pk) (t : Tt) : Tt × Pk := (((s.size : Int), (dProps 3 s t).1.2), { p with ps := (dProps 3 s t).2, payload := s.extract (dProps 3 s t).1.1.toNat s.size })
def dPub (s : ByteArray) (p : Pk) (t : Tt) : Tt × Pk :=
  if 0 < p.q then dPayl s { p with topic := (dText s t).2, id := (dId s (dText s t).1).2 } (dId s (dText s t).1).1 else dPayl s { p with topic := (dText s t).2 } (dText s t).1
def dEndP (s : ByteArray) (p : Pk) (t : Tt) : Tt × Pk := if t.2 = 0 ∧ t.1 < s.size then ((dProps p.kind s t).1, { p with ps := (dProps p.kind s t).2 }) else (t, p)
def dEnd (s : ByteArray) (p : Pk) (t : Tt) : Tt × Pk := if t.2 = 0 ∧ t.1 < s.size then dEndP s { p with code := (dNum s 1 t).2 } (dNum s 1 t).1 else dEndP s p t
def dAck (s : ByteArray) (p : Pk) (t : Tt) : Tt × Pk := dEnd s { p with id := (dId s t).2 } (dId s t).1
def dItem (s : ByteArray) (p : Pk) (t : Tt) : Tt × Pk :=
  if p.kind = 8 then ((dSub s t).1, { p with subs := p.subs ++ [(dSub s t).2] })
  else if p.kind = 10 then ((dText s t).1, { p with filters := p.filters ++ [(dText s t).2] })
  else ((dNum s 1 t).1, { p with codes := p.codes ++ [(dNum s 1 t).2] })
def dItems (s : ByteArray) : Nat → Pk → Tt → Tt × Pk
  | 0, p, t => if t.2 = 0 ∧ t.1 < s.size then (dFail t 149, p) else (t, p)
  | f + 1, p, t => if t.2 = 0 ∧ t.1 < s.size then dItems s f (dItem s p t).2 (dItem s p t).1 else (t, p)
def lst1 (s : ByteArray) (t : Tt) : Tt := if t.1 < s.size then t else dFail t 130
def dLists (s : ByteArray) (p : Pk) (t : Tt) : Tt × Pk :=
  dItems s 64 { p with id := (dId s t).2, ps := (dProps p.kind s (dId s t).1).2 } (lst1 s (dProps p.kind s (dId s t).1).1)
def dKind (s : ByteArray) (p : Pk) (t : Tt) : Tt × Pk :=
  if p.kind = 1 then dConn s p t else if p.kind = 2 then dConnack s p t else if p.kind = 3 then dPub s p t
  else if p.kind = 4 ∨ p.kind = 5 ∨ p.kind = 6 ∨ p.kind = 7 then dAck s p t
  else if p.kind = 14 ∨ p.kind = 15 then dEnd s p t
  else if p.kind = 8 ∨ p.kind = 9 ∨ p.kind = 10 ∨ p.kind = 11 then dLists s p t else (t, p)

def Ag {α : Type} (x : Tt × α) (r : RR α) : Prop := match r with
  | .ok (v, b) => x = ((b, 0), v)
  | .error e => e ≠ 0 ∧ x.1.2 = e
structure Agd {α : Type} (f : Tt → Tt × α) (g : Int → RR α) : Prop where
  stk : ∀ t, t.2 ≠ 0 → (f t).1.2 = t.2
  ag : ∀ a, Ag (f (a, 0)) (g a)
theorem dFail_stk {t : Tt} {c : Int} (h : t.2 ≠ 0) : dFail t c = t := by unfold dFail; rw [if_neg h]
theorem dFail_ok (a c : Int) : dFail (a, 0) c = (a, c) := rfl
theorem Agd.bind {α β : Type} {f : Tt → Tt × α} {g : Int → RR α} {h : α → Tt → Tt × β} {k : α → Int → RR β} (H : Agd f g) (K : ∀ v, Agd (h v) (k v)) : Agd (fun t => h (f t).2 (f t).1) (fun a => bindR (g a) k) := by
  refine ⟨fun t ht => ?_, fun a => ?_⟩
  · have h1 := H.stk t ht
    show (h (f t).2 (f t).1).1.2 = t.2
    rw [(K (f t).2).stk (f t).1 (by rw [h1]; exact ht), h1]
  · have h1 := H.ag a
    show Ag (h (f (a, 0)).2 (f (a, 0)).1) (bindR (g a) k)
    obtain ⟨r, hr⟩ : ∃ r, g a = r := ⟨_, rfl⟩
    rw [hr] at h1 ⊢
    cases r with
    | error e =>
      obtain ⟨h2, h3⟩ := h1
      exact ⟨h2, by rw [(K _).stk _ (by rw [h3]; exact h2), h3]⟩
    | ok v =>
      obtain ⟨v, b⟩ := v
      have h1 : f (a, 0) = ((b, 0), v) := h1
      rw [h1]
      exact (K v).ag b
theorem Agd.rd {α : Type} (f : Int → RR α) (d : α) (h : ∀ a e, f a = .error e → e ≠ 0) : Agd (dRd f d) f := by
  refine ⟨fun t ht => ?_, fun a => ?_⟩
  · unfold dRd; rw [if_pos ht]
  · unfold dRd
    obtain ⟨r, hr⟩ : ∃ r, f a = r := ⟨_, rfl⟩
    simp only [ne_eq, not_true_eq_false, if_false]
    rw [hr]
    cases r with
    | error e => exact ⟨h a e hr, rfl⟩
    | ok v => obtain ⟨v, b⟩ := v; rfl
theorem Agd.ret {α : Type} (v : α) : Agd (fun t => (t, v)) (fun a => .ok (v, a)) := ⟨fun _ _ => rfl, fun _ => rfl⟩
theorem Agd.ite {α : Type} {c : Prop} [Decidable c] {f f' : Tt → Tt × α} {g g' : Int → RR α} (H : Agd f g) (H' : Agd f' g') : Agd (fun t => if c then f t else f' t) (fun a => if c then g a else g' a) := by
  by_cases h : c
  · simp only [if_pos h]; exact H
  · simp only [if_neg h]; exact H'
/-- A check, and what follows. -/
theorem Agd.chk {α : Type} {c : Prop} [Decidable c] (e : Int) (he : e ≠ 0) {f : Tt → Tt × α} {g : Int → RR α} (H : Agd f g) : Agd (fun t => f (if c then dFail t e else t)) (fun a => if c then .error e else g a) := by
  by_cases h : c
  · simp only [if_pos h]
    refine ⟨fun t ht => ?_, fun a => ?_⟩
    · rw [dFail_stk ht]; exact H.stk t ht
    · exact ⟨he, by rw [dFail_ok]; exact H.stk (a, e) he⟩
  · simp only [if_neg h]; exact H
theorem rNum_err {s : ByteArray} {k a e : Int} (h : rNum s k a = .error e) : e ≠ 0 := by unfold rNum at h; split at h; cases h; cases h; decide
theorem rText_err {s : ByteArray} {a e : Int} (h : rText s a = .error e) : e ≠ 0 := by unfold rText at h; split at h; cases h; cases h; decide
theorem rData_err {s : ByteArray} {a e : Int} (h : rData s a = .error e) : e ≠ 0 := by unfold rData at h; split at h; cases h; cases h; decide
theorem rProps_err {s : ByteArray} {k a e : Int} (h : rProps k s a = .error e) : e ≠ 0 := by
  unfold rProps at h
  split at h
  · cases h; decide
  · split at h
    · rename_i h2; cases h; exact h2
    · split at h
      · cases h; decide
      · cases h
theorem agd_num (s : ByteArray) (k : Int) : Agd (dNum s k) (rNum s k) := Agd.rd _ _ fun _ _ => rNum_err
theorem agd_text (s : ByteArray) : Agd (dText s) (rText s) := Agd.rd _ _ fun _ _ => rText_err
theorem agd_data (s : ByteArray) : Agd (dData s) (rData s) := Agd.rd _ _ fun _ _ => rData_err
theorem agd_props (k : Int) (s : ByteArray) : Agd (dProps k s) (rProps k s) := Agd.rd _ _ fun _ _ => rProps_err
theorem agd_id (s : ByteArray) : Agd (dId s) (rId s) := (agd_num s 2).bind (h := fun n t => (if n = 0 then dFail t 130 else t, n)) (k := fun n a => if n = 0 then .error 130 else .ok (n, a)) fun n => Agd.chk 130 (by decide) (Agd.ret n)
theorem agd_sub (s : ByteArray) : Agd (dSub s) (rSub s) :=
  (agd_text s).bind (h := fun f t => (sub2 (dNum s 1 t).2 (sub1 (dNum s 1 t).2 (dNum s 1 t).1), sbOf f (dNum s 1 t).2)) fun f =>
    (agd_num s 1).bind (h := fun n t => (sub2 n (sub1 n t), sbOf f n)) fun n => Agd.chk 129 (by decide) (f := fun t => (sub2 n t, sbOf f n)) (Agd.chk 130 (by decide) (f := fun t => (t, sbOf f n)) (Agd.ret _))
theorem agd_pass (s : ByteArray) (p : Pk) : Agd (dPass s p) (rPass s p) := Agd.ite ((agd_data s).bind (h := fun d t => (t, { p with pass := d })) fun d => Agd.ret _) (Agd.ret p)
theorem agd_user (s : ByteArray) (p : Pk) : Agd (dUser s p) (rUser s p) := Agd.ite ((agd_text s).bind (h := fun d t => dPass s { p with user := d } t) fun d => agd_pass s _) (agd_pass s p)
theorem agd_will (s : ByteArray) (p : Pk) : Agd (dWill s p) (rWill s p) :=
  Agd.ite ((agd_props 0 s).bind (h := fun l t => dUser s { p with wps := l, wt := (dText s t).2, wp := (dData s (dText s t).1).2 } (dData s (dText s t).1).1) fun l =>
    (agd_text s).bind (h := fun x t => dUser s { p with wps := l, wt := x, wp := (dData s t).2 } (dData s t).1) fun x =>
      (agd_data s).bind (h := fun d t => dUser s { p with wps := l, wt := x, wp := d } t) fun d => agd_user s _) (agd_user s p)
theorem agd_keep (s : ByteArray) (p : Pk) : Agd (dKeep s p) (rKeep s p) :=
  (agd_num s 2).bind (h := fun n t => dWill s { p with keep := n, ps := (dProps 1 s t).2, client := (dText s (dProps 1 s t).1).2 } (dText s (dProps 1 s t).1).1) fun n =>
    (agd_props 1 s).bind (h := fun l t => dWill s { p with keep := n, ps := l, client := (dText s t).2 } (dText s t).1) fun l =>
      (agd_text s).bind (h := fun x t => dWill s { p with keep := n, ps := l, client := x } t) fun x => agd_will s _
theorem agd_fl (s : ByteArray) (p : Pk) : Agd (dFl s p) (fun a => bindR (rNum s 1 a) fun f a => if badFl f then .error 129 else rKeep s (cSet p f) a) :=
  (agd_num s 1).bind (h := fun f t => dKeep s (cSet p f) (con3 f t)) fun f => Agd.chk 129 (by decide) (agd_keep s _)
theorem agd_ver (s : ByteArray) (p : Pk) : Agd (dVer s p) (fun a => bindR (rNum s 1 a) fun v a => if v ≠ 5 then .error 132 else bindR (rNum s 1 a) fun f a => if badFl f then .error 129 else rKeep s (cSet p f) a) :=
  (agd_num s 1).bind (h := fun v t => dFl s p (con2 v t)) fun v => Agd.chk 132 (by decide) (agd_fl s p)
theorem agd_conn (s : ByteArray) (p : Pk) : Agd (dConn s p) (rConn s p) :=
  (agd_text s).bind (h := fun n t => dVer s p (con1 n t)) fun n => Agd.chk 129 (by decide) (agd_ver s p)
def cak (s : ByteArray) (p : Pk) (n : Int) (t : Tt) : Tt × Pk := ((dProps 2 s (dNum s 1 t).1).1, { p with session := decide (n = 1), code := (dNum s 1 t).2, ps := (dProps 2 s (dNum s 1 t).1).2 })
def rcak (s : ByteArray) (p : Pk) (n : Int) (a : Int) : RR Pk := bindR (rNum s 1 a) fun c a => bindR (rProps 2 s a) fun l a => .ok ({ p with session := decide (n = 1), code := c, ps := l }, a)
theorem agd_cak (s : ByteArray) (p : Pk) (n : Int) : Agd (cak s p n) (rcak s p n) :=
  (agd_num s 1).bind (h := fun c t => ((dProps 2 s t).1, { p with session := decide (n = 1), code := c, ps := (dProps 2 s t).2 })) (k := fun c a => bindR (rProps 2 s a) fun l a => .ok ({ p with session := decide (n = 1), code := c, ps := l }, a)) fun c =>
    (agd_props 2 s).bind (h := fun l t => (t, { p with session := decide (n = 1), code := c, ps := l })) (k := fun l a => .ok ({ p with session := decide (n = 1), code := c, ps := l }, a)) fun l => Agd.ret _
theorem agd_connack (s : ByteArray) (p : Pk) : Agd (dConnack s p) (rConnack s p) :=
  (agd_num s 1).bind (h := fun n t => cak s p n (ack1 n t)) (k := fun n a => if ¬ n < 2 then .error 129 else rcak s p n a) fun n => Agd.chk 129 (by decide) (agd_cak s p n)
theorem agd_payl (s : ByteArray) (p : Pk) : Agd (dPayl s p) (rPayl s p) := by
  have h : ∀ l : List Pp, Agd (fun t : Tt => (((s.size : Int), t.2), ({ p with ps := l, payload := s.extract t.1.toNat s.size } : Pk))) (fun a => .ok (({ p with ps := l, payload := s.extract a.toNat s.size } : Pk), (s.size : Int))) := fun l => ⟨fun _ _ => rfl, fun _ => rfl⟩
  exact (agd_props 3 s).bind (h := fun l (t : Tt) => (((s.size : Int), t.2), ({ p with ps := l, payload := s.extract t.1.toNat s.size } : Pk))) (k := fun l a => .ok (({ p with ps := l, payload := s.extract a.toNat s.size } : Pk), (s.size : Int))) h
theorem agd_pub (s : ByteArray) (p : Pk) : Agd (dPub s p) (rPub s p) := by
  have h1 : Agd (fun t => dPayl s { p with topic := (dText s t).2, id := (dId s (dText s t).1).2 } (dId s (dText s t).1).1) (fun a => bindR (rText s a) fun t a => bindR (rId s a) fun n a => rPayl s { p with topic := t, id := n } a) :=
    (agd_text s).bind (h := fun x t => dPayl s { p with topic := x, id := (dId s t).2 } (dId s t).1) fun x => (agd_id s).bind (h := fun n t => dPayl s { p with topic := x, id := n } t) fun n => agd_payl s _
  have h2 : Agd (fun t => dPayl s { p with topic := (dText s t).2 } (dText s t).1) (fun a => bindR (rText s a) fun t a => rPayl s { p with topic := t } a) :=
    (agd_text s).bind (h := fun x t => dPayl s { p with topic := x } t) fun x => agd_payl s _
  unfold dPub rPub
  by_cases h : 0 < p.q
  · simp only [if_pos h]; exact h1
  · simp only [if_neg h]; exact h2
/-- What is read as long as there is something. -/
theorem Agd.more {α : Type} {n : Int} {f f' : Tt → Tt × α} {g g' : Int → RR α} (H : Agd f g) (H' : Agd f' g') : Agd (fun t => if t.2 = 0 ∧ t.1 < n then f t else f' t) (fun a => if a < n then g a else g' a) := by
  refine ⟨fun t ht => ?_, fun a => ?_⟩
  · show (if t.2 = 0 ∧ t.1 < n then f t else f' t).1.2 = t.2
    rw [if_neg (fun c => ht c.1)]
    exact H'.stk t ht
  · show Ag (if (a, (0 : Int)).2 = 0 ∧ (a, (0 : Int)).1 < n then f (a, 0) else f' (a, 0)) (if a < n then g a else g' a)
    by_cases h : a < n
    · rw [if_pos ⟨rfl, h⟩, if_pos h]; exact H.ag a
    · rw [if_neg (fun c => h c.2), if_neg h]; exact H'.ag a
theorem agd_endP (s : ByteArray) (p : Pk) : Agd (dEndP s p) (rEndP s p) := by
  have h : Agd (fun t : Tt => ((dProps p.kind s t).1, ({ p with ps := (dProps p.kind s t).2 } : Pk))) (fun a => bindR (rProps p.kind s a) fun l a => .ok (({ p with ps := l } : Pk), a)) :=
    (agd_props p.kind s).bind (h := fun l (t : Tt) => (t, ({ p with ps := l } : Pk))) (k := fun l a => .ok (({ p with ps := l } : Pk), a)) fun l => Agd.ret _
  exact Agd.more (n := s.size) h (Agd.ret p)
theorem agd_end (s : ByteArray) (p : Pk) : Agd (dEnd s p) (rEnd s p) :=
  Agd.more (f := fun t => dEndP s { p with code := (dNum s 1 t).2 } (dNum s 1 t).1) ((agd_num s 1).bind (h := fun c t => dEndP s { p with code := c } t) fun c => agd_endP s _) (agd_endP s p)
theorem agd_ack (s : ByteArray) (p : Pk) : Agd (dAck s p) (rAck s p) := (agd_id s).bind (h := fun n t => dEnd s { p with id := n } t) fun n => agd_end s _
theorem agd_item (s : ByteArray) (p : Pk) : Agd (dItem s p) (rItem s p) :=
  Agd.ite ((agd_sub s).bind (h := fun x t => (t, { p with subs := p.subs ++ [x] })) fun x => Agd.ret _)
    (Agd.ite ((agd_text s).bind (h := fun x t => (t, { p with filters := p.filters ++ [x] })) fun x => Agd.ret _) ((agd_num s 1).bind (h := fun x t => (t, { p with codes := p.codes ++ [x] })) fun x => Agd.ret _))
theorem agd_items (s : ByteArray) : ∀ (f : Nat) (p : Pk), Agd (dItems s f p) (rItems s f p)
  | 0, p => Agd.more (f := fun t => (dFail t 149, p)) (g := fun _ => .error 149) ⟨fun t ht => by rw [dFail_stk ht], fun a => ⟨by decide, rfl⟩⟩ (Agd.ret p)
  | f + 1, p => Agd.more (f := fun t => dItems s f (dItem s p t).2 (dItem s p t).1) ((agd_item s p).bind (h := fun q t => dItems s f q t) fun q => agd_items s f q) (Agd.ret p)
theorem agd_lists (s : ByteArray) (p : Pk) : Agd (dLists s p) (rLists s p) :=
  (agd_id s).bind (h := fun n t => dItems s 64 { p with id := n, ps := (dProps p.kind s t).2 } (lst1 s (dProps p.kind s t).1)) fun n =>
    (agd_props p.kind s).bind (h := fun l t => dItems s 64 { p with id := n, ps := l } (lst1 s t)) fun l => by
      have H := agd_items s 64 { p with id := n, ps := l }
      refine ⟨fun t ht => ?_, fun a => ?_⟩
      · have : lst1 s t = t := by unfold lst1; split; rfl; exact dFail_stk ht
        show (dItems s 64 { p with id := n, ps := l } (lst1 s t)).1.2 = t.2
        rw [this]
        exact H.stk t ht
      · show Ag (dItems s 64 { p with id := n, ps := l } (lst1 s (a, 0))) (if a < s.size then rItems s 64 { p with id := n, ps := l } a else .error 130)
        unfold lst1
        by_cases h : a < s.size
        · rw [if_pos h, if_pos h]; exact H.ag a
        · rw [if_neg h, if_neg h, dFail_ok]
          exact ⟨by decide, H.stk (a, 130) (by show (130 : Int) ≠ 0; decide)⟩
theorem agd_kind (s : ByteArray) (p : Pk) : Agd (dKind s p) (rKind s p) :=
  Agd.ite (agd_conn s p) (Agd.ite (agd_connack s p) (Agd.ite (agd_pub s p) (Agd.ite (agd_ack s p) (Agd.ite (agd_end s p) (Agd.ite (agd_lists s p) (Agd.ret p))))))
def Rg (s : ByteArray) (t : Tt) : Prop := 0 ≤ t.1 ∧ t.1 ≤ s.size
theorem dFail_rg {s : ByteArray} {t : Tt} {c : Int} (h : Rg s t) : Rg s (dFail t c) := by unfold dFail; split; exact h; exact h
theorem dRd_rg {α : Type} {s : ByteArray} {f : Int → RR α} {d : α} {t : Tt} (h : Rg s t) (hf : ∀ a v b, 0 ≤ a → f a = .ok (v, b) → a ≤ b ∧ b ≤ s.size ∧ 0 ≤ a) : Rg s (dRd f d t).1 := by
  unfold dRd
  split
  · exact h
  · obtain ⟨r, hr⟩ : ∃ r, f t.1 = r := ⟨_, rfl⟩
    rw [hr]
    cases r with
    | error e => exact h
    | ok v =>
      obtain ⟨v, b⟩ := v
      have := hf _ _ _ h.1 hr
      exact ⟨by show 0 ≤ b; omega, this.2.1⟩
theorem dNum_rg {s : ByteArray} {k : Int} {t : Tt} (h : Rg s t) : Rg s (dNum s k t).1 := dRd_rg h fun _ _ _ _ e => rNum_at e
theorem dText_rg {s : ByteArray} {t : Tt} (h : Rg s t) : Rg s (dText s t).1 := dRd_rg h fun _ _ _ _ e => rText_at e
theorem dData_rg {s : ByteArray} {t : Tt} (h : Rg s t) : Rg s (dData s t).1 := dRd_rg h fun _ _ _ _ e => rData_at e
theorem dProps_rg {s : ByteArray} {k : Int} {t : Tt} (h : Rg s t) : Rg s (dProps k s t).1 := dRd_rg h fun _ _ _ ha e => rProps_at e ha
theorem dId_rg {s : ByteArray} {t : Tt} (h : Rg s t) : Rg s (dId s t).1 := by
  unfold dId
  simp only
  split
  · exact dFail_rg (dNum_rg h)
  · exact dNum_rg h
end Go.Proofs.YtedapgeabpadaaaDoor

set_option linter.unusedVariables false
set_option linter.unusedSimpArgs false
namespace Go.Proofs.YtedapgeabpadaaaDoor
open Go.RowKit Pl Go.PlainAid

set_option maxHeartbeats 1000000 in
theorem rall_any (k : Int) (A : Option Addr) (n cap : Nat) (L : List Pp) (w : World) (hn : L.length = n) (hm : n ≤ 1048576) (h : PRow w A L) :
    Calls Tryd.prog 87 #[.int .i64 k, .slice A n cap] w fun e w' => e = .returned (.bool (okAll k L)) ∧ Below w.heap.size w w' := by
  have H := Lib.hid h
  have HN := Lib.hid hn
  obtain ⟨q, hq⟩ : ∃ q : Pp → Bool, (fun p => !alw k p.id) = q := ⟨_, rfl⟩
  have HQ : Hid (∀ p : Pp, q p = !alw k p.id) := Lib.hid fun p => by rw [← hq]
  obtain ⟨r, hr⟩ : ∃ r, okAll k L = r := ⟨_, rfl⟩
  have HR : Hid ((!L.any q) = r) := Lib.hid (by rw [← hr, ← hq]; rfl)
  rw [hr]
  clear h hn hq hr
  go_enter Tryd.func87, Tryd.ntmps87
  go_wp2
  go_loopw [5, 6] (fun i _ wr => ∃ j : Nat, i = .int .i64 j ∧ j ≤ n ∧ Hid ((L.take j).any q = false) ∧ Hid (Below w.heap.size w wr)) (fun i _ _ => n - (intOf i).toNat)
  case atStart => exact ⟨0, rfl, by omega, Lib.hid rfl, Lib.hid (Below.refl _ _)⟩
  case round =>
    obtain ⟨j, rfl, hj, hv, hb⟩ := hrel
    by_cases hlt : j < n
    · obtain ⟨b, o, rfl, hl, hc⟩ := (H.out.below hb.out) (by rw [HN.out]; omega)
      obtain ⟨x, hx⟩ : ∃ x, L[j]? = some x := ⟨_, List.getElem?_eq_getElem (by rw [HN.out]; omega)⟩
      obtain ⟨c0, c1, c2, c3⟩ := hc j x hx
      have hjI : (j : Int) < (n : Int) := by omega
      obtain ⟨y, hy⟩ : ∃ y, alw k x.id = y := ⟨_, rfl⟩
      have HY := Lib.hid ((HQ.out x).trans (by rw [hy]))
      have HX := Lib.hid hx
      have CA : ∀ X : World, Calls Tryd.prog 107 #[.int .i64 k, .int .i64 x.id] X fun e w' => e = .returned (.bool y) ∧ Below X.heap.size X w' := fun X => by rw [← hy]; exact refallowed_any k x.id X
      have CA := Lib.hid CA
      clear hc c1 c2 c3 hx hy
      cases y
      · have Hr : Hid (r = false) := Lib.hid (by
          rw [← HR.out, Bool.not_eq_false', List.any_eq_true]
          exact ⟨x, List.mem_of_getElem? HX.out, HY.out⟩)
        go_wp2_with fail
        (with_reducible refine (CA.out _).mono ?_)
        rintro e w1 ⟨rfl, b1⟩
        have B1 := Lib.hid (hb.out.trans (b1.mono hb.out.size))
        clear b1
        go_wp2
        go_ret
        exact ⟨ret_bool Hr.out.symm, B1.out⟩
      · have Hr := Lib.hid (any_take_p HX.out hv.out HY.out)
        go_wp2_with fail
        (with_reducible refine (CA.out _).mono ?_)
        rintro e w1 ⟨rfl, b1⟩
        have B1 := Lib.hid (hb.out.trans (b1.mono hb.out.size))
        clear b1
        go_wp2
        go_round
        case rel => exact ⟨j + 1, by go_num, by omega, Hr.out, B1⟩
        case measure => simp [intOf]; omega
    · obtain rfl : j = n := by omega
      have Hr : Hid (r = true) := Lib.hid (by
        have h2 := hv.out
        rw [← HN.out, List.take_length] at h2
        rw [← HR.out, h2]; rfl)
      have hb2 := hb
      clear hb
      go_wp2
      go_ret
      exact ⟨ret_bool Hr.out.symm, hb2.out⟩
set_option maxRecDepth 100000 in
set_option maxHeartbeats 4000000 in
theorem rflags_no3 (p : Pk) (m : Hs) (w : World) (h3 : p.kind ≠ 3) :
    Calls Tryd.prog 38 #[.agg (pkA .i64 p m)] w fun e w' => e = .returned (.int .i64 (kFlags p.kind)) ∧ Below w.heap.size w w' := by
  have hB := Blk.new w (pkA .i64 p m) 52
  have b1 : Below w.heap.size w (w.alloc (.cells (pkA .i64 p m) 52)) := (Below.refl _ _).alloc (Nat.le_refl _) _
  obtain ⟨W, hW⟩ : ∃ W, w.alloc (.cells (pkA .i64 p m) 52) = W := ⟨_, rfl⟩
  rw [hW] at hB b1
  have k0 : W.cell? ⟨w.heap.size, 0, none⟩ = some (.int .i64 p.kind) := hB.cell 0
  have B1 := Lib.hid b1
  clear hB b1
  by_cases h6 : p.kind = 6
  · have e : kFlags p.kind = 2 := by unfold kFlags; rw [if_pos (by omega)]
    have t6 : (p.kind == 6) = true := by rw [h6]; rfl
    rw [e]
    clear e h6
    go_enter Tryd.func38, Tryd.ntmps38
    go_wp2
    go_ret
    exact ⟨rfl, B1.out⟩
  by_cases h8 : p.kind = 8
  · have e : kFlags p.kind = 2 := by unfold kFlags; rw [if_pos (by omega)]
    have t6 : (p.kind == 6) = false := beq_eq_false_iff_ne.2 h6
    have t8 : (p.kind == 8) = true := by rw [h8]; rfl
    rw [e]
    clear e h6 h8
    go_enter Tryd.func38, Tryd.ntmps38
    go_wp2
    go_ret
    exact ⟨rfl, B1.out⟩
  by_cases h10 : p.kind = 10
  · have e : kFlags p.kind = 2 := by unfold kFlags; rw [if_pos (by omega)]
    have t6 : (p.kind == 6) = false := beq_eq_false_iff_ne.2 h6
    have t8 : (p.kind == 8) = false := beq_eq_false_iff_ne.2 h8
    have t10 : (p.kind == 10) = true := by rw [h10]; rfl
    rw [e]
    clear e h6 h8 h10
    go_enter Tryd.func38, Tryd.ntmps38
    go_wp2
    go_ret
    exact ⟨rfl, B1.out⟩
  have t6 : (p.kind == 6) = false := beq_eq_false_iff_ne.2 h6
  have t8 : (p.kind == 8) = false := beq_eq_false_iff_ne.2 h8
  have t10 : (p.kind == 10) = false := beq_eq_false_iff_ne.2 h10
  have HK := Lib.hid h3
  · have e : kFlags p.kind = 0 := by unfold kFlags; rw [if_neg (by omega)]
    have t3 : (p.kind == 3) = false := beq_eq_false_iff_ne.2 h3
    rw [e]
    clear e h6 h8 h10 h3
    go_enter Tryd.func38, Tryd.ntmps38
    go_wp2
    go_ret
    exact ⟨rfl, B1.out⟩

theorem isset_any (n b : Int) (w : World) (hn : 0 ≤ n) (hn2 : n ≤ 255) (hb : 0 < b) (hb2 : b ≤ 255) : Calls Tryd.prog 37 #[.int .i64 n, .int .i64 b] w fun e w' => e = .returned (.bool (decide (n / b % 2 = 1))) ∧ w = w' := by
  have e1 : n.tdiv b = n / b := Int.tdiv_eq_ediv_of_nonneg hn
  have h1 : 0 ≤ n / b := Int.ediv_nonneg hn (by omega)
  have h2 : n / b ≤ n := Int.ediv_le_self _ hn
  have e2 : (n / b).tmod 2 = n / b % 2 := Int.tmod_eq_emod_of_nonneg h1
  obtain ⟨q, hq⟩ : ∃ q, n / b = q := ⟨_, rfl⟩
  rw [hq] at e1 e2 h1 h2 ⊢
  have hb0 : ¬ b = 0 := by omega
  clear hq
  go_enter Tryd.func37, Tryd.ntmps37
  go_wp2
  go_ret
  exact ⟨ret_bool (by first | rfl | (rw [Bool.eq_iff_iff]; simp)), rfl⟩
end Go.Proofs.YtedapgeabpadaaaDoor

set_option linter.unusedVariables false
set_option linter.unusedSimpArgs false
namespace Go.Proofs.YtedapgeabpadaaaDoor
open Go.RowKit Pl Go.PlainAid

def inA (s : ByteArray) (a c : Int) : Array Value := #[.string s, .int .i64 a, .int .i64 c]
/-- What came in, and the result: two blocks of a part's own. -/
structure Rin (w : World) (s : ByteArray) (a c : Int) (r : Array Value) (W : World) : Prop where
  below : Below w.heap.size w W
  p : Blk W w.heap.size (inA s a c) 118
  q : Blk W (w.heap.size + 1) r 118
theorem Rin.new (w : World) (s : ByteArray) (a c : Int) : Rin w s a c #[.string ⟨#[]⟩, .int .i64 0, .int .i64 0] ((w.alloc (.cells (inA s a c) 118)).alloc (.cells #[.string ⟨#[]⟩, .int .i64 0, .int .i64 0] 118)) := by
  have hq := Blk.new (w.alloc (.cells (inA s a c) 118)) #[.string ⟨#[]⟩, .int .i64 0, .int .i64 0] 118
  rw [show (w.alloc (.cells (inA s a c) 118)).heap.size = w.heap.size + 1 from by simp] at hq
  exact ⟨((Below.refl _ _).alloc (Nat.le_refl _) _).alloc (by simp) _, (Blk.new w (inA s a c) 118).alloc _, hq⟩
theorem Rin.step {w : World} {s : ByteArray} {a c : Int} {r : Array Value} {W W' : World} (h : Rin w s a c r W) (b : Below W.heap.size W W') : Rin w s a c r W' := ⟨h.below.trans (b.mono h.below.size), h.p.of_below b, h.q.of_below b⟩
/-- What a part tells: where it ends and the code, and the value. -/
def stI {α : Type} (r : RR α) (d : α) (a c : Int) : (Int × Int) × α := if c ≠ 0 then ((a, c), d) else match r with
  | .ok (v, b) => ((b, 0), v)
  | .error e => ((a, e), d)
theorem stI_code {α : Type} {r : RR α} {d : α} {a c : Int} (h : c ≠ 0) : stI r d a c = ((a, c), d) := by unfold stI; rw [if_pos h]
set_option maxHeartbeats 2000000 in
theorem rfailed_any (s : ByteArray) (a c d : Int) (w : World) :
    Calls Tryd.prog 62 #[.agg (inA s a c), .int .i64 d] w fun e w' => e = .returned (.agg (inA s a (mix c d))) ∧ Below w.heap.size w w' := by
  have h0 := Rin.new w s a c
  obtain ⟨W, hW⟩ : ∃ W, (w.alloc (.cells (inA s a c) 118)).alloc (.cells #[.string ⟨#[]⟩, .int .i64 0, .int .i64 0] 118) = W := ⟨_, rfl⟩
  rw [hW] at h0
  have H0 := Lib.hid h0
  clear h0
  have p0 : W.cell? ⟨w.heap.size, 0, none⟩ = some (.string s) := H0.out.p.cell 0
  have p1 : W.cell? ⟨w.heap.size, 1, none⟩ = some (.int .i64 (a)) := H0.out.p.cell 1
  have p2 : W.cell? ⟨w.heap.size, 2, none⟩ = some (.int .i64 (c)) := H0.out.p.cell 2
  have q0 : W.cell? ⟨w.heap.size + 1, 0, none⟩ = some (.string ⟨#[]⟩) := H0.out.q.cell 0
  have q1 : W.cell? ⟨w.heap.size + 1, 1, none⟩ = some (.int .i64 0) := H0.out.q.cell 1
  have q2 : W.cell? ⟨w.heap.size + 1, 2, none⟩ = some (.int .i64 0) := H0.out.q.cell 2
  have f0 := H0.out.p.frozen 0
  have f1 := H0.out.p.frozen 1
  have f2 := H0.out.p.frozen 2
  have g0 := H0.out.q.frozen 0
  have g1 := H0.out.q.frozen 1
  have g2 := H0.out.q.frozen 2
  unfold inA at hW ⊢
  by_cases hc : c = 0
  · subst hc
    have e : mix 0 d = d := by unfold mix; rw [if_pos rfl]
    rw [e]
    clear e
    go_enter Tryd.func62, Tryd.ntmps62
    go_wp2
    refine bodyPost_ret (v := .agg #[.string s, .int .i64 a, .int .i64 d]) (by simp [results, Tryd.results62, go_sem, q0, q1, q2]) rfl ?_
    exact ⟨rfl, (((H0.out.below.setCell (by simp) _).setCell (by simp) _).setCell (by simp) _).setCell (by simp) _⟩
  · have e : mix c d = c := by unfold mix; rw [if_neg hc]
    have e0 : (c == 0) = false := beq_eq_false_iff_ne.2 hc
    rw [e]
    clear e hc
    go_enter Tryd.func62, Tryd.ntmps62
    go_wp2
    refine bodyPost_ret (v := .agg #[.string s, .int .i64 a, .int .i64 c]) (by simp [results, Tryd.results62, go_sem, q0, q1, q2]) rfl ?_
    exact ⟨rfl, ((H0.out.below.setCell (by simp) _).setCell (by simp) _).setCell (by simp) _⟩
set_option maxHeartbeats 4000000 in
theorem dnum_any (s : ByteArray) (a c k : Int) (w : World) (hs : s.size ≤ 140737488351232) (h0 : -9223372036854775808 ≤ a) (h1 : a ≤ 9223372036854775807) :
    Calls Tryd.prog 61 #[.agg (inA s a c), .int .i64 k] w fun e w' => e = .returned (.tuple #[.agg (inA s (stI (rNum s k a) 0 a c).1.1 (stI (rNum s k a) 0 a c).1.2), .int .i64 (stI (rNum s k a) 0 a c).2]) ∧ Below w.heap.size w w' := by
  have h0' := Rin.new w s a c
  obtain ⟨W, hW⟩ : ∃ W, (w.alloc (.cells (inA s a c) 118)).alloc (.cells #[.string ⟨#[]⟩, .int .i64 0, .int .i64 0] 118) = W := ⟨_, rfl⟩
  rw [hW] at h0'
  have H0 := Lib.hid h0'
  clear h0'
  unfold inA at hW ⊢
  by_cases hc : c = 0
  · subst hc
    obtain ⟨⟨x, to_, d⟩, hg⟩ : ∃ y, getF s a k = y := ⟨_, rfl⟩
    have HG := Lib.hid hg
    by_cases hd : d = 0
    · subst hd
      have hx : stI (rNum s k a) 0 a 0 = ((to_, 0), x) := by unfold rNum; rw [hg]; rfl
      rw [hx]
      clear hx hg
      have p0 : W.cell? ⟨w.heap.size, 0, none⟩ = some (.string s) := H0.out.p.cell 0
      have p1 : W.cell? ⟨w.heap.size, 1, none⟩ = some (.int .i64 (a)) := H0.out.p.cell 1
      have p2 : W.cell? ⟨w.heap.size, 2, none⟩ = some (.int .i64 (0)) := H0.out.p.cell 2
      have q0 : W.cell? ⟨w.heap.size + 1, 0, none⟩ = some (.string ⟨#[]⟩) := H0.out.q.cell 0
      have q1 : W.cell? ⟨w.heap.size + 1, 1, none⟩ = some (.int .i64 0) := H0.out.q.cell 1
      have q2 : W.cell? ⟨w.heap.size + 1, 2, none⟩ = some (.int .i64 0) := H0.out.q.cell 2
      have f0 := H0.out.p.frozen 0
      have f1 := H0.out.p.frozen 1
      have f2 := H0.out.p.frozen 2
      have g0 := H0.out.q.frozen 0
      have g1 := H0.out.q.frozen 1
      have g2 := H0.out.q.frozen 2
      go_enter Tryd.func61, Tryd.ntmps61
      go_wp2_with fail
      (with_reducible refine (refgetfixed_all s a k _ hs h0 h1).mono ?_)
      rintro e w1 ⟨rfl, rfl⟩
      rw [HG.out]
      go_wp2
      refine bodyPost_ret (v := .tuple #[.agg #[.string s, .int .i64 to_, .int .i64 0], .int .i64 x]) (by simp [results, Tryd.results61, go_sem, q0, q1, q2]) rfl ?_
      exact ⟨rfl, (((H0.out.below.setCell (by simp) _).setCell (by simp) _).setCell (by simp) _).setCell (by simp) _⟩
    · have hx : stI (rNum s k a) 0 a 0 = ((a, 129), 0) := by unfold rNum; rw [hg]; simp only; rw [if_neg hd]; rfl
      rw [hx]
      have z0 : (d == 0) = false := beq_eq_false_iff_ne.2 hd
      have z1 : (d != 0) = true := by rw [bne, z0]; rfl
      clear hx hg hd
      have p0 : W.cell? ⟨w.heap.size, 0, none⟩ = some (.string s) := H0.out.p.cell 0
      have p1 : W.cell? ⟨w.heap.size, 1, none⟩ = some (.int .i64 (a)) := H0.out.p.cell 1
      have p2 : W.cell? ⟨w.heap.size, 2, none⟩ = some (.int .i64 (0)) := H0.out.p.cell 2
      have q0 : W.cell? ⟨w.heap.size + 1, 0, none⟩ = some (.string ⟨#[]⟩) := H0.out.q.cell 0
      have q1 : W.cell? ⟨w.heap.size + 1, 1, none⟩ = some (.int .i64 0) := H0.out.q.cell 1
      have q2 : W.cell? ⟨w.heap.size + 1, 2, none⟩ = some (.int .i64 0) := H0.out.q.cell 2
      have f0 := H0.out.p.frozen 0
      have f1 := H0.out.p.frozen 1
      have f2 := H0.out.p.frozen 2
      have g0 := H0.out.q.frozen 0
      have g1 := H0.out.q.frozen 1
      have g2 := H0.out.q.frozen 2
      have CF := Lib.hid (rfailed_any s a 0 129)
      unfold inA at CF
      go_enter Tryd.func61, Tryd.ntmps61
      go_wp2_with fail
      (with_reducible refine (refgetfixed_all s a k _ hs h0 h1).mono ?_)
      rintro e w1 ⟨rfl, rfl⟩
      rw [HG.out]
      go_wp2_with fail
      (with_reducible refine (CF.out _).mono ?_)
      rintro e w2 ⟨rfl, b2⟩
      have e129 : mix 0 129 = 129 := rfl
      rw [e129]
      have H2 := Lib.hid (H0.out.step b2)
      clear b2 p0 p1 p2 q0 q1 q2 f0 f1 f2 g0 g1 g2 CF hW
      have p0 : w2.cell? ⟨w.heap.size, 0, none⟩ = some (.string s) := H2.out.p.cell 0
      have p1 : w2.cell? ⟨w.heap.size, 1, none⟩ = some (.int .i64 (a)) := H2.out.p.cell 1
      have p2 : w2.cell? ⟨w.heap.size, 2, none⟩ = some (.int .i64 (0)) := H2.out.p.cell 2
      have q0 : w2.cell? ⟨w.heap.size + 1, 0, none⟩ = some (.string ⟨#[]⟩) := H2.out.q.cell 0
      have q1 : w2.cell? ⟨w.heap.size + 1, 1, none⟩ = some (.int .i64 0) := H2.out.q.cell 1
      have q2 : w2.cell? ⟨w.heap.size + 1, 2, none⟩ = some (.int .i64 0) := H2.out.q.cell 2
      have f0 := H2.out.p.frozen 0
      have f1 := H2.out.p.frozen 1
      have f2 := H2.out.p.frozen 2
      have g0 := H2.out.q.frozen 0
      have g1 := H2.out.q.frozen 1
      have g2 := H2.out.q.frozen 2
      go_wp2
      refine bodyPost_ret (v := .tuple #[.agg #[.string s, .int .i64 a, .int .i64 129], .int .i64 0]) (by simp [results, Tryd.results61, go_sem, q0, q1, q2]) rfl ?_
      exact ⟨rfl, (((((H2.out.below.setCell (by simp) _).setCell (by simp) _).setCell (by simp) _).setCell (by simp) _).setCell (by simp) _).setCell (by simp) _⟩
  · rw [stI_code hc]
    have z0 : (c == 0) = false := beq_eq_false_iff_ne.2 hc
    have z1 : (c != 0) = true := by rw [bne, z0]; rfl
    clear hc
    have p0 : W.cell? ⟨w.heap.size, 0, none⟩ = some (.string s) := H0.out.p.cell 0
    have p1 : W.cell? ⟨w.heap.size, 1, none⟩ = some (.int .i64 (a)) := H0.out.p.cell 1
    have p2 : W.cell? ⟨w.heap.size, 2, none⟩ = some (.int .i64 (c)) := H0.out.p.cell 2
    have q0 : W.cell? ⟨w.heap.size + 1, 0, none⟩ = some (.string ⟨#[]⟩) := H0.out.q.cell 0
    have q1 : W.cell? ⟨w.heap.size + 1, 1, none⟩ = some (.int .i64 0) := H0.out.q.cell 1
    have q2 : W.cell? ⟨w.heap.size + 1, 2, none⟩ = some (.int .i64 0) := H0.out.q.cell 2
    have f0 := H0.out.p.frozen 0
    have f1 := H0.out.p.frozen 1
    have f2 := H0.out.p.frozen 2
    have g0 := H0.out.q.frozen 0
    have g1 := H0.out.q.frozen 1
    have g2 := H0.out.q.frozen 2
    go_enter Tryd.func61, Tryd.ntmps61
    go_wp2
    refine bodyPost_ret (v := .tuple #[.agg #[.string s, .int .i64 a, .int .i64 c], .int .i64 0]) (by simp [results, Tryd.results61, go_sem, q0, q1, q2]) rfl ?_
    exact ⟨rfl, ((H0.out.below.setCell (by simp) _).setCell (by simp) _).setCell (by simp) _⟩
set_option maxHeartbeats 4000000 in
theorem dtext_any (s : ByteArray) (a c : Int) (w : World) (hs : s.size ≤ 140737488351232) (h0 : -9223372036854775808 ≤ a) (h1 : a ≤ 9223372036854775807) :
    Calls Tryd.prog 64 #[.agg (inA s a c)] w fun e w' => e = .returned (.tuple #[.agg (inA s (stI (rText s a) (⟨#[]⟩ : ByteArray) a c).1.1 (stI (rText s a) (⟨#[]⟩ : ByteArray) a c).1.2), .string (stI (rText s a) (⟨#[]⟩ : ByteArray) a c).2]) ∧ Below w.heap.size w w' := by
  have h0' := Rin.new w s a c
  obtain ⟨W, hW⟩ : ∃ W, (w.alloc (.cells (inA s a c) 118)).alloc (.cells #[.string ⟨#[]⟩, .int .i64 0, .int .i64 0] 118) = W := ⟨_, rfl⟩
  rw [hW] at h0'
  have H0 := Lib.hid h0'
  clear h0'
  unfold inA at hW ⊢
  by_cases hc : c = 0
  · subst hc
    obtain ⟨⟨x, to_, d⟩, hg⟩ : ∃ y, tget s a = y := ⟨_, rfl⟩
    have HG := Lib.hid hg
    by_cases hd : d = 0
    · subst hd
      have hx : stI (rText s a) (⟨#[]⟩ : ByteArray) a 0 = ((to_, 0), x) := by unfold rText; rw [hg]; rfl
      rw [hx]
      clear hx hg
      have p0 : W.cell? ⟨w.heap.size, 0, none⟩ = some (.string s) := H0.out.p.cell 0
      have p1 : W.cell? ⟨w.heap.size, 1, none⟩ = some (.int .i64 (a)) := H0.out.p.cell 1
      have p2 : W.cell? ⟨w.heap.size, 2, none⟩ = some (.int .i64 (0)) := H0.out.p.cell 2
      have q0 : W.cell? ⟨w.heap.size + 1, 0, none⟩ = some (.string ⟨#[]⟩) := H0.out.q.cell 0
      have q1 : W.cell? ⟨w.heap.size + 1, 1, none⟩ = some (.int .i64 0) := H0.out.q.cell 1
      have q2 : W.cell? ⟨w.heap.size + 1, 2, none⟩ = some (.int .i64 0) := H0.out.q.cell 2
      have f0 := H0.out.p.frozen 0
      have f1 := H0.out.p.frozen 1
      have f2 := H0.out.p.frozen 2
      have g0 := H0.out.q.frozen 0
      have g1 := H0.out.q.frozen 1
      have g2 := H0.out.q.frozen 2
      go_enter Tryd.func64, Tryd.ntmps64
      go_wp2_with fail
      (with_reducible refine (reftget_any s a _ hs h0 h1).mono ?_)
      rintro e w1 ⟨rfl, rfl⟩
      rw [HG.out]
      go_wp2
      refine bodyPost_ret (v := .tuple #[.agg #[.string s, .int .i64 to_, .int .i64 0], .string x]) (by simp [results, Tryd.results64, go_sem, q0, q1, q2]) rfl ?_
      exact ⟨rfl, (((H0.out.below.setCell (by simp) _).setCell (by simp) _).setCell (by simp) _).setCell (by simp) _⟩
    · have hx : stI (rText s a) (⟨#[]⟩ : ByteArray) a 0 = ((a, 129), ⟨#[]⟩) := by unfold rText; rw [hg]; simp only; rw [if_neg hd]; rfl
      rw [hx]
      have z0 : (d == 0) = false := beq_eq_false_iff_ne.2 hd
      have z1 : (d != 0) = true := by rw [bne, z0]; rfl
      clear hx hg hd
      have p0 : W.cell? ⟨w.heap.size, 0, none⟩ = some (.string s) := H0.out.p.cell 0
      have p1 : W.cell? ⟨w.heap.size, 1, none⟩ = some (.int .i64 (a)) := H0.out.p.cell 1
      have p2 : W.cell? ⟨w.heap.size, 2, none⟩ = some (.int .i64 (0)) := H0.out.p.cell 2
      have q0 : W.cell? ⟨w.heap.size + 1, 0, none⟩ = some (.string ⟨#[]⟩) := H0.out.q.cell 0
      have q1 : W.cell? ⟨w.heap.size + 1, 1, none⟩ = some (.int .i64 0) := H0.out.q.cell 1
      have q2 : W.cell? ⟨w.heap.size + 1, 2, none⟩ = some (.int .i64 0) := H0.out.q.cell 2
      have f0 := H0.out.p.frozen 0
      have f1 := H0.out.p.frozen 1
      have f2 := H0.out.p.frozen 2
      have g0 := H0.out.q.frozen 0
      have g1 := H0.out.q.frozen 1
      have g2 := H0.out.q.frozen 2
      have CF := Lib.hid (rfailed_any s a 0 129)
      unfold inA at CF
      go_enter Tryd.func64, Tryd.ntmps64
      go_wp2_with fail
      (with_reducible refine (reftget_any s a _ hs h0 h1).mono ?_)
      rintro e w1 ⟨rfl, rfl⟩
      rw [HG.out]
      go_wp2_with fail
      (with_reducible refine (CF.out _).mono ?_)
      rintro e w2 ⟨rfl, b2⟩
      have e129 : mix 0 129 = 129 := rfl
      rw [e129]
      have H2 := Lib.hid (H0.out.step b2)
      clear b2 p0 p1 p2 q0 q1 q2 f0 f1 f2 g0 g1 g2 CF hW
      have p0 : w2.cell? ⟨w.heap.size, 0, none⟩ = some (.string s) := H2.out.p.cell 0
      have p1 : w2.cell? ⟨w.heap.size, 1, none⟩ = some (.int .i64 (a)) := H2.out.p.cell 1
      have p2 : w2.cell? ⟨w.heap.size, 2, none⟩ = some (.int .i64 (0)) := H2.out.p.cell 2
      have q0 : w2.cell? ⟨w.heap.size + 1, 0, none⟩ = some (.string ⟨#[]⟩) := H2.out.q.cell 0
      have q1 : w2.cell? ⟨w.heap.size + 1, 1, none⟩ = some (.int .i64 0) := H2.out.q.cell 1
      have q2 : w2.cell? ⟨w.heap.size + 1, 2, none⟩ = some (.int .i64 0) := H2.out.q.cell 2
      have f0 := H2.out.p.frozen 0
      have f1 := H2.out.p.frozen 1
      have f2 := H2.out.p.frozen 2
      have g0 := H2.out.q.frozen 0
      have g1 := H2.out.q.frozen 1
      have g2 := H2.out.q.frozen 2
      go_wp2
      refine bodyPost_ret (v := .tuple #[.agg #[.string s, .int .i64 a, .int .i64 129], .string (⟨#[]⟩ : ByteArray)]) (by simp [results, Tryd.results64, go_sem, q0, q1, q2]) rfl ?_
      exact ⟨rfl, (((((H2.out.below.setCell (by simp) _).setCell (by simp) _).setCell (by simp) _).setCell (by simp) _).setCell (by simp) _).setCell (by simp) _⟩
  · rw [stI_code hc]
    have z0 : (c == 0) = false := beq_eq_false_iff_ne.2 hc
    have z1 : (c != 0) = true := by rw [bne, z0]; rfl
    clear hc
    have p0 : W.cell? ⟨w.heap.size, 0, none⟩ = some (.string s) := H0.out.p.cell 0
    have p1 : W.cell? ⟨w.heap.size, 1, none⟩ = some (.int .i64 (a)) := H0.out.p.cell 1
    have p2 : W.cell? ⟨w.heap.size, 2, none⟩ = some (.int .i64 (c)) := H0.out.p.cell 2
    have q0 : W.cell? ⟨w.heap.size + 1, 0, none⟩ = some (.string ⟨#[]⟩) := H0.out.q.cell 0
    have q1 : W.cell? ⟨w.heap.size + 1, 1, none⟩ = some (.int .i64 0) := H0.out.q.cell 1
    have q2 : W.cell? ⟨w.heap.size + 1, 2, none⟩ = some (.int .i64 0) := H0.out.q.cell 2
    have f0 := H0.out.p.frozen 0
    have f1 := H0.out.p.frozen 1
    have f2 := H0.out.p.frozen 2
    have g0 := H0.out.q.frozen 0
    have g1 := H0.out.q.frozen 1
    have g2 := H0.out.q.frozen 2
    go_enter Tryd.func64, Tryd.ntmps64
    go_wp2
    refine bodyPost_ret (v := .tuple #[.agg #[.string s, .int .i64 a, .int .i64 c], .string (⟨#[]⟩ : ByteArray)]) (by simp [results, Tryd.results64, go_sem, q0, q1, q2]) rfl ?_
    exact ⟨rfl, ((H0.out.below.setCell (by simp) _).setCell (by simp) _).setCell (by simp) _⟩
set_option maxHeartbeats 4000000 in
theorem ddata_any (s : ByteArray) (a c : Int) (w : World) (hs : s.size ≤ 140737488351232) (h0 : -9223372036854775808 ≤ a) (h1 : a ≤ 9223372036854775807) :
    Calls Tryd.prog 84 #[.agg (inA s a c)] w fun e w' => e = .returned (.tuple #[.agg (inA s (stI (rData s a) (⟨#[]⟩ : ByteArray) a c).1.1 (stI (rData s a) (⟨#[]⟩ : ByteArray) a c).1.2), .string (stI (rData s a) (⟨#[]⟩ : ByteArray) a c).2]) ∧ Below w.heap.size w w' := by
  have h0' := Rin.new w s a c
  obtain ⟨W, hW⟩ : ∃ W, (w.alloc (.cells (inA s a c) 118)).alloc (.cells #[.string ⟨#[]⟩, .int .i64 0, .int .i64 0] 118) = W := ⟨_, rfl⟩
  rw [hW] at h0'
  have H0 := Lib.hid h0'
  clear h0'
  unfold inA at hW ⊢
  by_cases hc : c = 0
  · subst hc
    obtain ⟨⟨x, to_, d⟩, hg⟩ : ∃ y, getD s a = y := ⟨_, rfl⟩
    have HG := Lib.hid hg
    by_cases hd : d = 0
    · subst hd
      have hx : stI (rData s a) (⟨#[]⟩ : ByteArray) a 0 = ((to_, 0), x) := by unfold rData; rw [hg]; rfl
      rw [hx]
      clear hx hg
      have p0 : W.cell? ⟨w.heap.size, 0, none⟩ = some (.string s) := H0.out.p.cell 0
      have p1 : W.cell? ⟨w.heap.size, 1, none⟩ = some (.int .i64 (a)) := H0.out.p.cell 1
      have p2 : W.cell? ⟨w.heap.size, 2, none⟩ = some (.int .i64 (0)) := H0.out.p.cell 2
      have q0 : W.cell? ⟨w.heap.size + 1, 0, none⟩ = some (.string ⟨#[]⟩) := H0.out.q.cell 0
      have q1 : W.cell? ⟨w.heap.size + 1, 1, none⟩ = some (.int .i64 0) := H0.out.q.cell 1
      have q2 : W.cell? ⟨w.heap.size + 1, 2, none⟩ = some (.int .i64 0) := H0.out.q.cell 2
      have f0 := H0.out.p.frozen 0
      have f1 := H0.out.p.frozen 1
      have f2 := H0.out.p.frozen 2
      have g0 := H0.out.q.frozen 0
      have g1 := H0.out.q.frozen 1
      have g2 := H0.out.q.frozen 2
      go_enter Tryd.func84, Tryd.ntmps84
      go_wp2_with fail
      (with_reducible refine (refgetdata_all s a _ hs h0 h1).mono ?_)
      rintro e w1 ⟨rfl, rfl⟩
      rw [HG.out]
      go_wp2
      refine bodyPost_ret (v := .tuple #[.agg #[.string s, .int .i64 to_, .int .i64 0], .string x]) (by simp [results, Tryd.results84, go_sem, q0, q1, q2]) rfl ?_
      exact ⟨rfl, (((H0.out.below.setCell (by simp) _).setCell (by simp) _).setCell (by simp) _).setCell (by simp) _⟩
    · have hx : stI (rData s a) (⟨#[]⟩ : ByteArray) a 0 = ((a, 129), ⟨#[]⟩) := by unfold rData; rw [hg]; simp only; rw [if_neg hd]; rfl
      rw [hx]
      have z0 : (d == 0) = false := beq_eq_false_iff_ne.2 hd
      have z1 : (d != 0) = true := by rw [bne, z0]; rfl
      clear hx hg hd
      have p0 : W.cell? ⟨w.heap.size, 0, none⟩ = some (.string s) := H0.out.p.cell 0
      have p1 : W.cell? ⟨w.heap.size, 1, none⟩ = some (.int .i64 (a)) := H0.out.p.cell 1
      have p2 : W.cell? ⟨w.heap.size, 2, none⟩ = some (.int .i64 (0)) := H0.out.p.cell 2
      have q0 : W.cell? ⟨w.heap.size + 1, 0, none⟩ = some (.string ⟨#[]⟩) := H0.out.q.cell 0
      have q1 : W.cell? ⟨w.heap.size + 1, 1, none⟩ = some (.int .i64 0) := H0.out.q.cell 1
      have q2 : W.cell? ⟨w.heap.size + 1, 2, none⟩ = some (.int .i64 0) := H0.out.q.cell 2
      have f0 := H0.out.p.frozen 0
      have f1 := H0.out.p.frozen 1
      have f2 := H0.out.p.frozen 2
      have g0 := H0.out.q.frozen 0
      have g1 := H0.out.q.frozen 1
      have g2 := H0.out.q.frozen 2
      have CF := Lib.hid (rfailed_any s a 0 129)
      unfold inA at CF
      go_enter Tryd.func84, Tryd.ntmps84
      go_wp2_with fail
      (with_reducible refine (refgetdata_all s a _ hs h0 h1).mono ?_)
      rintro e w1 ⟨rfl, rfl⟩
      rw [HG.out]
      go_wp2_with fail
      (with_reducible refine (CF.out _).mono ?_)
      rintro e w2 ⟨rfl, b2⟩
      have e129 : mix 0 129 = 129 := rfl
      rw [e129]
      have H2 := Lib.hid (H0.out.step b2)
      clear b2 p0 p1 p2 q0 q1 q2 f0 f1 f2 g0 g1 g2 CF hW
      have p0 : w2.cell? ⟨w.heap.size, 0, none⟩ = some (.string s) := H2.out.p.cell 0
      have p1 : w2.cell? ⟨w.heap.size, 1, none⟩ = some (.int .i64 (a)) := H2.out.p.cell 1
      have p2 : w2.cell? ⟨w.heap.size, 2, none⟩ = some (.int .i64 (0)) := H2.out.p.cell 2
      have q0 : w2.cell? ⟨w.heap.size + 1, 0, none⟩ = some (.string ⟨#[]⟩) := H2.out.q.cell 0
      have q1 : w2.cell? ⟨w.heap.size + 1, 1, none⟩ = some (.int .i64 0) := H2.out.q.cell 1
      have q2 : w2.cell? ⟨w.heap.size + 1, 2, none⟩ = some (.int .i64 0) := H2.out.q.cell 2
      have f0 := H2.out.p.frozen 0
      have f1 := H2.out.p.frozen 1
      have f2 := H2.out.p.frozen 2
      have g0 := H2.out.q.frozen 0
      have g1 := H2.out.q.frozen 1
      have g2 := H2.out.q.frozen 2
      go_wp2
      refine bodyPost_ret (v := .tuple #[.agg #[.string s, .int .i64 a, .int .i64 129], .string (⟨#[]⟩ : ByteArray)]) (by simp [results, Tryd.results84, go_sem, q0, q1, q2]) rfl ?_
      exact ⟨rfl, (((((H2.out.below.setCell (by simp) _).setCell (by simp) _).setCell (by simp) _).setCell (by simp) _).setCell (by simp) _).setCell (by simp) _⟩
  · rw [stI_code hc]
    have z0 : (c == 0) = false := beq_eq_false_iff_ne.2 hc
    have z1 : (c != 0) = true := by rw [bne, z0]; rfl
    clear hc
    have p0 : W.cell? ⟨w.heap.size, 0, none⟩ = some (.string s) := H0.out.p.cell 0
    have p1 : W.cell? ⟨w.heap.size, 1, none⟩ = some (.int .i64 (a)) := H0.out.p.cell 1
    have p2 : W.cell? ⟨w.heap.size, 2, none⟩ = some (.int .i64 (c)) := H0.out.p.cell 2
    have q0 : W.cell? ⟨w.heap.size + 1, 0, none⟩ = some (.string ⟨#[]⟩) := H0.out.q.cell 0
    have q1 : W.cell? ⟨w.heap.size + 1, 1, none⟩ = some (.int .i64 0) := H0.out.q.cell 1
    have q2 : W.cell? ⟨w.heap.size + 1, 2, none⟩ = some (.int .i64 0) := H0.out.q.cell 2
    have f0 := H0.out.p.frozen 0
    have f1 := H0.out.p.frozen 1
    have f2 := H0.out.p.frozen 2
    have g0 := H0.out.q.frozen 0
    have g1 := H0.out.q.frozen 1
    have g2 := H0.out.q.frozen 2
    go_enter Tryd.func84, Tryd.ntmps84
    go_wp2
    refine bodyPost_ret (v := .tuple #[.agg #[.string s, .int .i64 a, .int .i64 c], .string (⟨#[]⟩ : ByteArray)]) (by simp [results, Tryd.results84, go_sem, q0, q1, q2]) rfl ?_
    exact ⟨rfl, ((H0.out.below.setCell (by simp) _).setCell (by simp) _).setCell (by simp) _⟩
end Go.Proofs.YtedapgeabpadaaaDoor


