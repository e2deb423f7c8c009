/- The walk of prop.Put. -/
import Derived.Test.YtifbkfkieppacaaDoorPutV
import Derived.Test.YtifbkfkieppacaaDoorShelf
import Derived.Test.YtifbkfkieppacaaDoorBuild
namespace Go.Proofs.YtifbkfkieppacaaDoor
set_option linter.unusedVariables false
open Go.RowKit Pl Go.Shelf

theorem own_below {w w' : World} {base n size : Nat} {e : TypeId} {v : Value} {xs : List Value} (h : w.ownsRow base e size v n xs) (hb : Below w.heap.size w w') : w'.ownsRow base e size v n xs := by
  refine ⟨h.1, ?_⟩
  rcases h.2 with h0 | ⟨g, cap, cur, rfl, hg, hh, hrest⟩
  · exact .inl h0
  · exact .inr ⟨g, cap, cur, rfl, hg, (hb.block g (h.lt g rfl).2).trans hh, hrest⟩
theorem bat_below {T e : TypeId} {B b : Nat} {p : Value} {bs : List Value} {w w' : World} (h : Lib.BuilderAt T e B b p bs w) (hb : Below w.heap.size w w') : Lib.BuilderAt T e B b p bs w' := by
  have hlt := h.lt
  obtain ⟨h1, v, h2, h3, h4⟩ := h
  exact ⟨h1, v, (hb.block b hlt).trans h2, own_below h3 hb, h4⟩
theorem isb_below {T e : TypeId} {B b : Nat} {bs : List Value} {w w' : World} (h : Lib.IsBuilder T e B b bs w) (hb : Below w.heap.size w w') : Lib.IsBuilder T e B b bs w' := by
  rcases h with h | h
  · exact .inl (bat_below h hb)
  · exact .inr (bat_below h hb)
theorem isb_add {T e : TypeId} {B b : Nat} {s t : ByteArray} {w : World} (h : Lib.BuilderAt T e B b (.pointer (some ⟨b, 0, none⟩)) (Lib.byteCells s.data.toList ++ Lib.strCells t) w) : Lib.IsBuilder T e B b (Lib.byteCells (s ++ t).data.toList) w := by
  refine .inr ?_
  have e2 : Lib.byteCells (s ++ t).data.toList = Lib.byteCells s.data.toList ++ Lib.strCells t := by
    rw [ByteArray.data_append, Array.toList_append, Lib.byteCells_append]; rfl
  rw [e2]; exact h
set_option maxHeartbeats 4000000 in
theorem pput_any (A : Option Addr) (n cap : Nat) (L : List Pp) (w : World) (hn : L.length = n) (hc : n ≤ cap) (hm : n ≤ 1048576) (h : PRow w A L) (hz : ∀ p ∈ L, p.fits) (hT : Tabs w) :
    Calls Tryd.prog 8 #[.slice A n cap] w fun e w' => e = .returned (.tuple #[.string (ppS L), .int .u8 (ppC L)]) ∧ Below w.heap.size w w' := by
  by_cases h64 : 64 < n
  · obtain ⟨e1, e2⟩ := pp_long (L := L) (by omega)
    rw [e1, e2]
    have hI : (64 : Int) < (n : Int) := by omega
    clear e1 e2 h hz hT hn
    go_enter Tryd.func8, Tryd.ntmps8
    go_wp2
    go_ret2
    exact ⟨rfl, Below.refl _ _⟩
  · have H := Lib.hid h
    have HN := Lib.hid hn
    have HZ := Lib.hid hz
    have HT := Lib.hid hT
    have hI : (n : Int) ≤ 64 := by omega
    have h0 : Lib.IsBuilder 51 5 w.heap.size w.heap.size (Lib.byteCells (⟨#[]⟩ : ByteArray).data.toList) (w.alloc (.cells #[.pointer none, .slice none 0 0] 51)) := Lib.fresh_isBuilder _ _ w
    have b0 : Below w.heap.size w (w.alloc (.cells #[.pointer none, .slice none 0 0] 51)) := (Below.refl _ _).alloc (Nat.le_refl _) _
    obtain ⟨W0, hW0⟩ : ∃ W0, w.alloc (.cells #[.pointer none, .slice none 0 0] 51) = W0 := ⟨_, rfl⟩
    rw [hW0] at h0 b0
    have H0 := Lib.hid h0
    have B0 := Lib.hid b0
    have HW0 := Lib.hid hW0
    have hcI : (n : Int) ≤ (cap : Int) := by omega
    clear h hn hz hT h0 b0 hW0
    go_enter Tryd.func8, Tryd.ntmps8
    go_wp2_with fail
    rw [HW0.out]
    go_loopw [18] (fun i wr => ∃ k : Nat, i = .int .i64 k ∧ k ≤ n ∧ Hid (codK L k = 0) ∧ Hid (Lib.IsBuilder 51 5 w.heap.size w.heap.size (Lib.byteCells (putK L k).data.toList) wr) ∧ Hid (Below w.heap.size w wr)) (fun i _ => n - (intOf i).toNat)
    case atStart => exact ⟨0, rfl, by omega, Lib.hid rfl, H0, B0⟩
    case round =>
      obtain ⟨k, rfl, hk, hcd, hB, hb⟩ := hrel
      by_cases hlt : k < n
      · obtain ⟨b, o, rfl, hl, hcl⟩ := (H.out.below hb.out) (by rw [HN.out]; omega)
        obtain ⟨p, hp⟩ : ∃ p, L[k]? = some p := ⟨_, List.getElem?_eq_getElem (by rw [HN.out]; omega)⟩
        obtain ⟨c0, c1, c2, c3⟩ := hcl k p hp
        have hfit := HZ.out p (List.mem_of_getElem? hp)
        have hkI : (k : Int) < (n : Int) := by omega
        have hkc : (k : Int) ≤ (cap : Int) := by omega
        have hHas : ∀ X, Below wr.heap.size wr X → Calls Tryd.prog 15 #[.slice (some ⟨b, o, none⟩) k cap, .int .i64 p.id] X fun e w' => e = .returned (.bool (dup L k p.id)) ∧ Below X.heap.size X w' := fun X hx => has_any _ k cap (L.take k) p.id X (by rw [List.length_take, HN.out]; omega) (by omega) ((H.out.below (hb.out.trans (hx.mono hb.out.size))).take)
        have CH := Lib.hid hHas
        have hb2 : Below w.heap.size w (wr.alloc (.cells (ppA p) 39)) := hb.out.alloc hb.out.size _
        have hS : S4b (wr.alloc (.cells (ppA p) 39)) wr.heap.size p := ⟨World.cell?_alloc_at _ _ _ _ rfl, World.cell?_alloc_at _ _ _ _ rfl, World.cell?_alloc_at _ _ _ _ rfl, World.cell?_alloc_at _ _ _ _ rfl⟩
        have hW1 : Below wr.heap.size wr (wr.alloc (.cells (ppA p) 39)) := (Below.refl _ _).alloc (Nat.le_refl _) _
        have hlw : wr.heap.size < (wr.alloc (.cells (ppA p) 39)).heap.size := by simp
        have hBW := isb_below hB.out hW1
        have hY0 : wr.alloc (.cells (ppA p) 39) = wr.alloc (.cells #[.int .i64 p.id, .int .i64 p.n, .string p.s, .string p.t] 39) := rfl
        obtain ⟨Y, hY⟩ : ∃ Y, wr.alloc (.cells (ppA p) 39) = Y := ⟨_, rfl⟩
        rw [hY] at hb2 hS hW1 hlw hBW hY0
        have HY := Lib.hid hY0.symm
        have HP := Lib.hid hp
        have HBW := Lib.hid hBW
        have HB2 := Lib.hid hb2
        have HW1 := Lib.hid hW1
        have HS4 := Lib.hid hS
        obtain ⟨s0, s1, s2, s3⟩ := hS
        have HTY := Lib.hid (HT.out.below hb2)
        clear hcl hp hY hY0 hBW hb2 hW1 hHas
        obtain ⟨kd, hkd⟩ : ∃ kd, kindOf p.id = kd := ⟨_, rfl⟩
        have CK : ∀ X : World, Calls Tryd.prog 14 #[.int .i64 p.id] X fun e w' => e = .returned (.int .i64 kd) ∧ X = w' := fun X => by rw [← hkd]; exact kind_any p.id X
        have CK := Lib.hid CK
        have HKD := Lib.hid hkd
        clear hkd
        by_cases h0 : kd = 0
        · subst h0
          have HR : Hid (codK L n = 129) := Lib.hid (cod_last (n := n) ((cod_succ HP.out hcd.out).trans (by unfold stp; rw [if_pos HKD.out])) (by decide) hlt)
          go_wp2_with fail
          rw [HY.out]
          refine (CK.out _).mono ?_
          rintro e w1 ⟨rfl, rfl⟩
          go_wp2
          go_ret2
          obtain ⟨q1, q2⟩ := pp_bad (L := L) (c := 129) (by rw [HN.out]; exact h64) (by rw [HN.out]; exact HR.out) (by decide)
          exact ⟨by rw [q1, q2]; rfl, HB2.out⟩
        · have e0 : (kd == 0) = false := by rw [beq_eq_false_iff_ne]; exact h0
          obtain ⟨dp, hdp⟩ : ∃ dp, dup L k p.id = dp := ⟨_, rfl⟩
          rw [hdp] at CH
          have HDP := Lib.hid hdp
          clear hdp
          cases dp
          · go_wp2_with fail
            rw [HY.out]
            refine (CK.out _).mono ?_
            rintro e w1 ⟨rfl, rfl⟩
            go_wp2_with fail
            have CHd := Lib.hid (CH.out Y.drew HW1.out.drew)
            have s0d : Y.drew.cell? ⟨wr.heap.size, 0, none⟩ = some (.int .i64 p.id) := s0
            go_region_held3 (fun X => X.cell? ⟨wr.heap.size, 0, none⟩ = some (.int .i64 p.id)) (first | (with_reducible assumption) | exact s0 | exact s0d | exact y3) (first | (go_at_call 15; refine CHd.out.mono ?_; rintro e w2 ⟨rfl, b2⟩; have y3 : w2.cell? ⟨wr.heap.size, 0, none⟩ = some (.int .i64 p.id) := (b2.cell (p := ⟨wr.heap.size, 0, none⟩) hlw).trans s0d; have y4 : S4b w2 wr.heap.size p := s4b_blw (X := Y.drew) HS4.out hlw b2) | (fail))
            all_goals have bY2 : Below Y.heap.size Y w2 := (Below.refl _ _).drew.trans b2
            all_goals
              obtain ⟨t0, t1, t2, t3⟩ := y4
              have HT2 := Lib.hid (HTY.out.below bY2)
              have HB4 := Lib.hid (isb_below HBW.out bY2)
              have hlw2 : wr.heap.size < w2.heap.size := Nat.lt_of_lt_of_le hlw bY2.size
            obtain ⟨cd, hcd2⟩ : ∃ cd, pvC p = cd := ⟨_, rfl⟩
            have CV := value_any p w2 hfit HT2.out
            rw [hcd2] at CV
            have HCD := Lib.hid hcd2
            have HSZ := Lib.hid (pvS_small p)
            have CV := Lib.hid CV
            clear hcd2 hfit
            by_cases hc0 : cd = 0
            · subst hc0
              have hk1 := Lib.hid (put_succ (L := L) (k := k) HP.out)
              have hcd1 : Hid (codK L (k + 1) = 0) := Lib.hid ((cod_succ HP.out hcd.out).trans (by unfold stp; rw [if_neg (by rw [HKD.out]; exact h0), if_neg (by rw [HDP.out]; decide)]; exact HCD.out))
              have hB2 := Lib.hid (HB2.out.trans (bY2.mono HB2.out.size))
              go_wp2_with fail
              refine CV.out.mono ?_
              rintro e w3 ⟨v, rfl, hv, b3⟩
              obtain rfl : v = pvS p := hv trivial
              have hB3 := Lib.hid (hB2.out.trans (b3.mono hB2.out.size))
              have HB5 := Lib.hid (isb_below HB4.out b3)
              have u0 := (b3.cell (p := ⟨wr.heap.size, 0, none⟩) hlw2).trans t0
              have hlw3 : wr.heap.size < w3.heap.size := Nat.lt_of_lt_of_le hlw2 b3.size
              clear b3 hv
              go_wp2_with fail
              refine (put_all p.id _).mono ?_
              rintro e w4 ⟨rfl, b4⟩
              have hB6 := Lib.hid (hB3.out.trans (b4.mono hB3.out.size))
              have HB7 := Lib.hid (isb_below HB5.out b4)
              have hs1 := HSZ.out
              have hs2 := enc_small p.id
              have hs3 := put_small L k
              clear b4
              go_wp2_with fail
              refine (ws_any _ _ _ _ _ HB7.out (by rw [Lib.byteCells_length, ByteArray.size_append]; show (putK L k).data.toList.length + ((enc p.id).toArray.size + _) ≤ _; simp only [List.size_toArray]; have e : (putK L k).data.toList.length = (putK L k).size := rfl; rw [e]; omega) hB6.out.size).mono ?_
              rintro e w5 ⟨rfl, hb5, b5⟩
              have hB8 := Lib.hid (hB6.out.trans b5)
              have HB9 := Lib.hid (isb_add hb5)
              clear hb5 b5
              go_wp2
              go_roundw
              case rel => exact ⟨k + 1, by go_num, by omega, hcd1, by rw [hk1.out]; exact HB9, hB8⟩
              case measure => simp [intOf]; omega
            · have e1 : (cd == 0) = false := by rw [beq_eq_false_iff_ne]; exact hc0
              have e2 : (cd != 0) = true := by rw [bne, e1]; rfl
              have HR : Hid (codK L n = cd) := Lib.hid (cod_last (n := n) ((cod_succ HP.out hcd.out).trans (by unfold stp; rw [if_neg (by rw [HKD.out]; exact h0), if_neg (by rw [HDP.out]; decide), HCD.out])) hc0 hlt)
              go_wp2_with fail
              refine CV.out.mono ?_
              rintro e w3 ⟨v, rfl, hv, b3⟩
              go_wp2
              go_ret2
              obtain ⟨q1, q2⟩ := pp_bad (L := L) (c := cd) (by rw [HN.out]; exact h64) (by rw [HN.out]; exact HR.out) hc0
              exact ⟨by rw [q1, q2]; rfl, HB2.out.trans ((bY2.trans (b3.mono bY2.size)).mono HB2.out.size)⟩
          · have HR : Hid (codK L n = 130) := Lib.hid (cod_last (n := n) ((cod_succ HP.out hcd.out).trans (by unfold stp; rw [if_neg (by rw [HKD.out]; exact h0), if_pos HDP.out])) (by decide) hlt)
            go_wp2_with fail
            rw [HY.out]
            refine (CK.out _).mono ?_
            rintro e w1 ⟨rfl, rfl⟩
            go_wp2_with fail
            have CHd := Lib.hid (CH.out Y.drew HW1.out.drew)
            have s0d : Y.drew.cell? ⟨wr.heap.size, 0, none⟩ = some (.int .i64 p.id) := s0
            go_region_held3 (fun X => X.cell? ⟨wr.heap.size, 0, none⟩ = some (.int .i64 p.id)) (first | (with_reducible assumption) | exact s0 | exact s0d | exact y3) (first | (go_at_call 15; refine CHd.out.mono ?_; rintro e w2 ⟨rfl, b2⟩; have y3 : w2.cell? ⟨wr.heap.size, 0, none⟩ = some (.int .i64 p.id) := (b2.cell (p := ⟨wr.heap.size, 0, none⟩) hlw).trans s0d; have y4 : S4b w2 wr.heap.size p := s4b_blw (X := Y.drew) HS4.out hlw b2) | (fail))
            all_goals have bY2 : Below Y.heap.size Y w2 := (Below.refl _ _).drew.trans b2
            all_goals go_wp2
            all_goals
              go_ret2
              obtain ⟨q1, q2⟩ := pp_bad (L := L) (c := 130) (by rw [HN.out]; exact h64) (by rw [HN.out]; exact HR.out) (by decide)
              exact ⟨by rw [q1, q2]; rfl, HB2.out.trans (bY2.mono HB2.out.size)⟩
      · obtain rfl : k = n := by omega
        obtain ⟨q1, q2⟩ := pp_ok (L := L) (by rw [HN.out]; exact h64) (by rw [HN.out]; exact hcd.out)
        rw [HN.out] at q2
        have hs3 := put_small L k
        obtain ⟨m, hm'⟩ : ∃ m, (putK L k).size = m := ⟨_, rfl⟩
        rw [hm'] at q2 hs3
        have CL := Tryd.Builder_Len w.heap.size w.heap.size _ wr hB.out
        rw [Lib.byteCells_length, show (putK L k).data.toList.length = m from hm'] at CL
        have CP : ∀ X : World, Calls Tryd.prog 17 #[.int .i64 (m : Int)] X fun e w' => e = .returned (.tuple #[.string ⟨(enc m).toArray⟩, .int .u8 0]) ∧ Below X.heap.size X w' := fun X => by
          have h := put_all (m : Int) X
          rwa [show putC (m : Int) = 0 from by unfold putC; rw [if_neg (by omega)]] at h
        have CP := Lib.hid CP
        have CL := Lib.hid CL
        have Q1 := Lib.hid q1
        have Q2 := Lib.hid q2
        have HM := Lib.hid hm'
        clear q1 q2 hm'
        go_wp2_with fail
        refine CL.out.mono ?_
        rintro e w1 ⟨rfl, rfl⟩
        go_wp2_with fail
        refine (CP.out _).mono ?_
        rintro e w2 ⟨rfl, b2⟩
        have HB2 := Lib.hid (isb_below hB.out b2)
        have hb2 := Lib.hid (hb.out.trans (b2.mono hb.out.size))
        have hs4 := enc_small m
        have CS := Tryd.Builder_String_any _ _ _ _ HB2.out hb2.out.size
        rw [show (⟨(putK L k).data.toList.toArray⟩ : ByteArray) = putK L k from by apply ByteArray.ext; simp] at CS
        have hm2 : (putK L k).size = m := HM.out
        obtain ⟨M, hM⟩ : ∃ M, putK L k = M := ⟨_, rfl⟩
        rw [hM] at CS hm2 Q2
        have CS := Lib.hid CS
        have hm3 : M.size ≤ 8388992 := by omega
        clear b2 hM hm2
        go_wp2_with fail
        refine CS.out.mono ?_
        rintro e w3 ⟨rfl, b3⟩
        go_wp2
        go_ret2
        exact ⟨by rw [Q1.out, Q2.out]; rfl, hb2.out.trans b3⟩
end Go.Proofs.YtifbkfkieppacaaDoor
