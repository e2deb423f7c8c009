/- Parts of the proof, joined: PutW, Allow, Wr3, PReader, BackPlain, RdPlain. -/
import Derived.Test.YtedapgeabpadaaaDoorH6P4
import Derived.Test.YtedapgeabpadaaaDoorH6P1
import Derived.Test.YtedapgeabpadaaaDoorRows
import Derived.Test.YtedapgeabpadaaaDoorH6P3
import Derived.WalkLawsBesides
import Derived.WalkSpells
import Derived.Handy
import Derived.Deep.RegionHeld3
import Derived.Test.YtedapgeabpadaaaDoorH6P2
/- The walk of prop.Put. -/
namespace Go.Proofs.YtedapgeabpadaaaDoor
set_option linter.unusedVariables false
open Go.RowKit Pl Go.Shelf

theorem own_below {w w' : World} {base n size : Nat} {e : TypeId} {v : Value} {xs : List Value} (h : w.ownsRow base e size v n xs) (hb : Below w.heap.size w w') : w'.ownsRow base e size v n xs := by
  refine ⟨h.1, ?_⟩
  rcases h.2 with h0 | ⟨g, cap, cur, rfl, hg, hh, hrest⟩
  · exact .inl h0
  · exact .inr ⟨g, cap, cur, rfl, hg, (hb.block g (h.lt g rfl).2).trans hh, hrest⟩
theorem bat_below {T e : TypeId} {B b : Nat} {p : Value} {bs : List Value} {w w' : World} (h : Lib.BuilderAt T e B b p bs w) (hb : Below w.heap.size w w') : Lib.BuilderAt T e B b p bs w' := by
  have hlt := h.lt
  obtain ⟨h1, v, h2, h3, h4⟩ := h
  exact ⟨h1, v, (hb.block b hlt).trans h2, own_below h3 hb, h4⟩
theorem isb_below {T e : TypeId} {B b : Nat} {bs : List Value} {w w' : World} (h : Lib.IsBuilder T e B b bs w) (hb : Below w.heap.size w w') : Lib.IsBuilder T e B b bs w' := by
  rcases h with h | h
  · exact .inl (bat_below h hb)
  · exact .inr (bat_below h hb)
theorem isb_add {T e : TypeId} {B b : Nat} {s t : ByteArray} {w : World} (h : Lib.BuilderAt T e B b (.pointer (some ⟨b, 0, none⟩)) (Lib.byteCells s.data.toList ++ Lib.strCells t) w) : Lib.IsBuilder T e B b (Lib.byteCells (s ++ t).data.toList) w := by
  refine .inr ?_
  have e2 : Lib.byteCells (s ++ t).data.toList = Lib.byteCells s.data.toList ++ Lib.strCells t := by
    rw [ByteArray.data_append, Array.toList_append, Lib.byteCells_append]; rfl
  rw [e2]; exact h
set_option maxHeartbeats 4000000 in
theorem pput_any (A : Option Addr) (n cap : Nat) (L : List Pp) (w : World) (hn : L.length = n) (hc : n ≤ cap) (hm : n ≤ 1048576) (h : PRow w A L) (hz : ∀ p ∈ L, p.fits) (hT : Tabs w) :
    Calls Tryd.prog 72 #[.slice A n cap] w fun e w' => e = .returned (.tuple #[.string (ppS L), .int .u8 (ppC L)]) ∧ Below w.heap.size w w' := by
  by_cases h64 : 64 < n
  · obtain ⟨e1, e2⟩ := pp_long (L := L) (by omega)
    rw [e1, e2]
    have hI : (64 : Int) < (n : Int) := by omega
    clear e1 e2 h hz hT hn
    go_enter Tryd.func72, Tryd.ntmps72
    go_wp2
    go_ret2
    exact ⟨rfl, Below.refl _ _⟩
  · have H := Lib.hid h
    have HN := Lib.hid hn
    have HZ := Lib.hid hz
    have HT := Lib.hid hT
    have hI : (n : Int) ≤ 64 := by omega
    have h0 : Lib.IsBuilder 92 5 w.heap.size w.heap.size (Lib.byteCells (⟨#[]⟩ : ByteArray).data.toList) (w.alloc (.cells #[.pointer none, .slice none 0 0] 92)) := Lib.fresh_isBuilder _ _ w
    have b0 : Below w.heap.size w (w.alloc (.cells #[.pointer none, .slice none 0 0] 92)) := (Below.refl _ _).alloc (Nat.le_refl _) _
    obtain ⟨W0, hW0⟩ : ∃ W0, w.alloc (.cells #[.pointer none, .slice none 0 0] 92) = W0 := ⟨_, rfl⟩
    rw [hW0] at h0 b0
    have H0 := Lib.hid h0
    have B0 := Lib.hid b0
    have HW0 := Lib.hid hW0
    have hcI : (n : Int) ≤ (cap : Int) := by omega
    clear h hn hz hT h0 b0 hW0
    go_enter Tryd.func72, Tryd.ntmps72
    go_wp2_with fail
    rw [HW0.out]
    go_loopw [18] (fun i wr => ∃ k : Nat, i = .int .i64 k ∧ k ≤ n ∧ Hid (codK L k = 0) ∧ Hid (Lib.IsBuilder 92 5 w.heap.size w.heap.size (Lib.byteCells (putK L k).data.toList) wr) ∧ Hid (Below w.heap.size w wr)) (fun i _ => n - (intOf i).toNat)
    case atStart => exact ⟨0, rfl, by omega, Lib.hid rfl, H0, B0⟩
    case round =>
      obtain ⟨k, rfl, hk, hcd, hB, hb⟩ := hrel
      by_cases hlt : k < n
      · obtain ⟨b, o, rfl, hl, hcl⟩ := (H.out.below hb.out) (by rw [HN.out]; omega)
        obtain ⟨p, hp⟩ : ∃ p, L[k]? = some p := ⟨_, List.getElem?_eq_getElem (by rw [HN.out]; omega)⟩
        obtain ⟨c0, c1, c2, c3⟩ := hcl k p hp
        have hfit := HZ.out p (List.mem_of_getElem? hp)
        have hkI : (k : Int) < (n : Int) := by omega
        have hkc : (k : Int) ≤ (cap : Int) := by omega
        have hHas : ∀ X, Below wr.heap.size wr X → Calls Tryd.prog 94 #[.slice (some ⟨b, o, none⟩) k cap, .int .i64 p.id] X fun e w' => e = .returned (.bool (dup L k p.id)) ∧ Below X.heap.size X w' := fun X hx => has_any _ k cap (L.take k) p.id X (by rw [List.length_take, HN.out]; omega) (by omega) ((H.out.below (hb.out.trans (hx.mono hb.out.size))).take)
        have CH := Lib.hid hHas
        have hb2 : Below w.heap.size w (wr.alloc (.cells (ppA p) 123)) := hb.out.alloc hb.out.size _
        have hS : S4b (wr.alloc (.cells (ppA p) 123)) wr.heap.size p := ⟨World.cell?_alloc_at _ _ _ _ rfl, World.cell?_alloc_at _ _ _ _ rfl, World.cell?_alloc_at _ _ _ _ rfl, World.cell?_alloc_at _ _ _ _ rfl⟩
        have hW1 : Below wr.heap.size wr (wr.alloc (.cells (ppA p) 123)) := (Below.refl _ _).alloc (Nat.le_refl _) _
        have hlw : wr.heap.size < (wr.alloc (.cells (ppA p) 123)).heap.size := by simp
        have hBW := isb_below hB.out hW1
        have hY0 : wr.alloc (.cells (ppA p) 123) = wr.alloc (.cells #[.int .i64 p.id, .int .i64 p.n, .string p.s, .string p.t] 123) := rfl
        obtain ⟨Y, hY⟩ : ∃ Y, wr.alloc (.cells (ppA p) 123) = Y := ⟨_, rfl⟩
        rw [hY] at hb2 hS hW1 hlw hBW hY0
        have HY := Lib.hid hY0.symm
        have HP := Lib.hid hp
        have HBW := Lib.hid hBW
        have HB2 := Lib.hid hb2
        have HW1 := Lib.hid hW1
        have HS4 := Lib.hid hS
        obtain ⟨s0, s1, s2, s3⟩ := hS
        have HTY := Lib.hid (HT.out.below hb2)
        clear hcl hp hY hY0 hBW hb2 hW1 hHas
        obtain ⟨kd, hkd⟩ : ∃ kd, kindOf p.id = kd := ⟨_, rfl⟩
        have CK : ∀ X : World, Calls Tryd.prog 93 #[.int .i64 p.id] X fun e w' => e = .returned (.int .i64 kd) ∧ X = w' := fun X => by rw [← hkd]; exact kind_any p.id X
        have CK := Lib.hid CK
        have HKD := Lib.hid hkd
        clear hkd
        by_cases h0 : kd = 0
        · subst h0
          have HR : Hid (codK L n = 129) := Lib.hid (cod_last (n := n) ((cod_succ HP.out hcd.out).trans (by unfold stp; rw [if_pos HKD.out])) (by decide) hlt)
          go_wp2_with fail
          rw [HY.out]
          refine (CK.out _).mono ?_
          rintro e w1 ⟨rfl, rfl⟩
          go_wp2
          go_ret2
          obtain ⟨q1, q2⟩ := pp_bad (L := L) (c := 129) (by rw [HN.out]; exact h64) (by rw [HN.out]; exact HR.out) (by decide)
          exact ⟨by rw [q1, q2]; rfl, HB2.out⟩
        · have e0 : (kd == 0) = false := by rw [beq_eq_false_iff_ne]; exact h0
          obtain ⟨dp, hdp⟩ : ∃ dp, dup L k p.id = dp := ⟨_, rfl⟩
          rw [hdp] at CH
          have HDP := Lib.hid hdp
          clear hdp
          cases dp
          · go_wp2_with fail
            rw [HY.out]
            refine (CK.out _).mono ?_
            rintro e w1 ⟨rfl, rfl⟩
            go_wp2_with fail
            have CHd := Lib.hid (CH.out Y.drew HW1.out.drew)
            have s0d : Y.drew.cell? ⟨wr.heap.size, 0, none⟩ = some (.int .i64 p.id) := s0
            go_region_held3 (fun X => X.cell? ⟨wr.heap.size, 0, none⟩ = some (.int .i64 p.id)) (first | (with_reducible assumption) | exact s0 | exact s0d | exact y3) (first | (go_at_call 94; refine CHd.out.mono ?_; rintro e w2 ⟨rfl, b2⟩; have y3 : w2.cell? ⟨wr.heap.size, 0, none⟩ = some (.int .i64 p.id) := (b2.cell (p := ⟨wr.heap.size, 0, none⟩) hlw).trans s0d; have y4 : S4b w2 wr.heap.size p := s4b_blw (X := Y.drew) HS4.out hlw b2) | (fail))
            all_goals have bY2 : Below Y.heap.size Y w2 := (Below.refl _ _).drew.trans b2
            all_goals
              obtain ⟨t0, t1, t2, t3⟩ := y4
              have HT2 := Lib.hid (HTY.out.below bY2)
              have HB4 := Lib.hid (isb_below HBW.out bY2)
              have hlw2 : wr.heap.size < w2.heap.size := Nat.lt_of_lt_of_le hlw bY2.size
            obtain ⟨cd, hcd2⟩ : ∃ cd, pvC p = cd := ⟨_, rfl⟩
            have CV := value_any p w2 hfit HT2.out
            rw [hcd2] at CV
            have HCD := Lib.hid hcd2
            have HSZ := Lib.hid (pvS_small p)
            have CV := Lib.hid CV
            clear hcd2 hfit
            by_cases hc0 : cd = 0
            · subst hc0
              have hk1 := Lib.hid (put_succ (L := L) (k := k) HP.out)
              have hcd1 : Hid (codK L (k + 1) = 0) := Lib.hid ((cod_succ HP.out hcd.out).trans (by unfold stp; rw [if_neg (by rw [HKD.out]; exact h0), if_neg (by rw [HDP.out]; decide)]; exact HCD.out))
              have hB2 := Lib.hid (HB2.out.trans (bY2.mono HB2.out.size))
              go_wp2_with fail
              refine CV.out.mono ?_
              rintro e w3 ⟨v, rfl, hv, b3⟩
              obtain rfl : v = pvS p := hv trivial
              have hB3 := Lib.hid (hB2.out.trans (b3.mono hB2.out.size))
              have HB5 := Lib.hid (isb_below HB4.out b3)
              have u0 := (b3.cell (p := ⟨wr.heap.size, 0, none⟩) hlw2).trans t0
              have hlw3 : wr.heap.size < w3.heap.size := Nat.lt_of_lt_of_le hlw2 b3.size
              clear b3 hv
              go_wp2_with fail
              refine (put_all p.id _).mono ?_
              rintro e w4 ⟨rfl, b4⟩
              have hB6 := Lib.hid (hB3.out.trans (b4.mono hB3.out.size))
              have HB7 := Lib.hid (isb_below HB5.out b4)
              have hs1 := HSZ.out
              have hs2 := enc_small p.id
              have hs3 := put_small L k
              clear b4
              go_wp2_with fail
              refine (ws_any _ _ _ _ _ HB7.out (by rw [Lib.byteCells_length, ByteArray.size_append]; show (putK L k).data.toList.length + ((enc p.id).toArray.size + _) ≤ _; simp only [List.size_toArray]; have e : (putK L k).data.toList.length = (putK L k).size := rfl; rw [e]; omega) hB6.out.size).mono ?_
              rintro e w5 ⟨rfl, hb5, b5⟩
              have hB8 := Lib.hid (hB6.out.trans b5)
              have HB9 := Lib.hid (isb_add hb5)
              clear hb5 b5
              go_wp2
              go_roundw
              case rel => exact ⟨k + 1, by go_num, by omega, hcd1, by rw [hk1.out]; exact HB9, hB8⟩
              case measure => simp [intOf]; omega
            · have e1 : (cd == 0) = false := by rw [beq_eq_false_iff_ne]; exact hc0
              have e2 : (cd != 0) = true := by rw [bne, e1]; rfl
              have HR : Hid (codK L n = cd) := Lib.hid (cod_last (n := n) ((cod_succ HP.out hcd.out).trans (by unfold stp; rw [if_neg (by rw [HKD.out]; exact h0), if_neg (by rw [HDP.out]; decide), HCD.out])) hc0 hlt)
              go_wp2_with fail
              refine CV.out.mono ?_
              rintro e w3 ⟨v, rfl, hv, b3⟩
              go_wp2
              go_ret2
              obtain ⟨q1, q2⟩ := pp_bad (L := L) (c := cd) (by rw [HN.out]; exact h64) (by rw [HN.out]; exact HR.out) hc0
              exact ⟨by rw [q1, q2]; rfl, HB2.out.trans ((bY2.trans (b3.mono bY2.size)).mono HB2.out.size)⟩
          · have HR : Hid (codK L n = 130) := Lib.hid (cod_last (n := n) ((cod_succ HP.out hcd.out).trans (by unfold stp; rw [if_neg (by rw [HKD.out]; exact h0), if_pos HDP.out])) (by decide) hlt)
            go_wp2_with fail
            rw [HY.out]
            refine (CK.out _).mono ?_
            rintro e w1 ⟨rfl, rfl⟩
            go_wp2_with fail
            have CHd := Lib.hid (CH.out Y.drew HW1.out.drew)
            have s0d : Y.drew.cell? ⟨wr.heap.size, 0, none⟩ = some (.int .i64 p.id) := s0
            go_region_held3 (fun X => X.cell? ⟨wr.heap.size, 0, none⟩ = some (.int .i64 p.id)) (first | (with_reducible assumption) | exact s0 | exact s0d | exact y3) (first | (go_at_call 94; refine CHd.out.mono ?_; rintro e w2 ⟨rfl, b2⟩; have y3 : w2.cell? ⟨wr.heap.size, 0, none⟩ = some (.int .i64 p.id) := (b2.cell (p := ⟨wr.heap.size, 0, none⟩) hlw).trans s0d; have y4 : S4b w2 wr.heap.size p := s4b_blw (X := Y.drew) HS4.out hlw b2) | (fail))
            all_goals have bY2 : Below Y.heap.size Y w2 := (Below.refl _ _).drew.trans b2
            all_goals go_wp2
            all_goals
              go_ret2
              obtain ⟨q1, q2⟩ := pp_bad (L := L) (c := 130) (by rw [HN.out]; exact h64) (by rw [HN.out]; exact HR.out) (by decide)
              exact ⟨by rw [q1, q2]; rfl, HB2.out.trans (bY2.mono HB2.out.size)⟩
      · obtain rfl : k = n := by omega
        obtain ⟨q1, q2⟩ := pp_ok (L := L) (by rw [HN.out]; exact h64) (by rw [HN.out]; exact hcd.out)
        rw [HN.out] at q2
        have hs3 := put_small L k
        obtain ⟨m, hm'⟩ : ∃ m, (putK L k).size = m := ⟨_, rfl⟩
        rw [hm'] at q2 hs3
        have CL := Tryd.Builder_Len w.heap.size w.heap.size _ wr hB.out
        rw [Lib.byteCells_length, show (putK L k).data.toList.length = m from hm'] at CL
        have CP : ∀ X : World, Calls Tryd.prog 29 #[.int .i64 (m : Int)] X fun e w' => e = .returned (.tuple #[.string ⟨(enc m).toArray⟩, .int .u8 0]) ∧ Below X.heap.size X w' := fun X => by
          have h := put_all (m : Int) X
          rwa [show putC (m : Int) = 0 from by unfold putC; rw [if_neg (by omega)]] at h
        have CP := Lib.hid CP
        have CL := Lib.hid CL
        have Q1 := Lib.hid q1
        have Q2 := Lib.hid q2
        have HM := Lib.hid hm'
        clear q1 q2 hm'
        go_wp2_with fail
        refine CL.out.mono ?_
        rintro e w1 ⟨rfl, rfl⟩
        go_wp2_with fail
        refine (CP.out _).mono ?_
        rintro e w2 ⟨rfl, b2⟩
        have HB2 := Lib.hid (isb_below hB.out b2)
        have hb2 := Lib.hid (hb.out.trans (b2.mono hb.out.size))
        have hs4 := enc_small m
        have CS := Tryd.Builder_String_any _ _ _ _ HB2.out hb2.out.size
        rw [show (⟨(putK L k).data.toList.toArray⟩ : ByteArray) = putK L k from by apply ByteArray.ext; simp] at CS
        have hm2 : (putK L k).size = m := HM.out
        obtain ⟨M, hM⟩ : ∃ M, putK L k = M := ⟨_, rfl⟩
        rw [hM] at CS hm2 Q2
        have CS := Lib.hid CS
        have hm3 : M.size ≤ 8388992 := by omega
        clear b2 hM hm2
        go_wp2_with fail
        refine CS.out.mono ?_
        rintro e w3 ⟨rfl, b3⟩
        go_wp2
        go_ret2
        exact ⟨by rw [Q1.out, Q2.out]; rfl, hb2.out.trans b3⟩
end Go.Proofs.YtedapgeabpadaaaDoor

/- The walks of packet.Allowed and of the document's Allowed. -/
namespace Go.Proofs.YtedapgeabpadaaaDoor
open Go.RowKit Pl

/-- The result is some integer of which P holds; the world is as it was. -/
def SomeInt (P : Int → Prop) (w : World) (e : Ending) (w' : World) : Prop := ∃ n : Int, P n ∧ e = .returned (.int .i64 n) ∧ w = w'

theorem index_hit (b : Nat) (l : List Int) (n : Int) (w : World) (hl : l.length ≤ 1000) (hc : ∀ j, j < l.length → w.cell? ⟨b, j, none⟩ = some (.int .i64 (l.getD j 0))) (hin : isIn n l = true) :
    Calls Tryd.prog 112 #[.slice (some ⟨b, 0, none⟩) l.length l.length, .int .i64 n] w (SomeInt (fun r => 0 ≤ r) w) := by
  have Hc := Lib.hid hc
  clear hc
  go_enter Tryd.func112, Tryd.ntmps112
  go_wp2
  go_loop [8] (fun i => ∃ k : Nat, i = .int .i64 k ∧ k ≤ l.length ∧ Hid (∀ j, j < k → l.getD j 0 ≠ n)) (fun i => l.length - (intOf i).toNat)
  case atStart => exact ⟨0, rfl, by omega, fun j hj => absurd hj (by omega)⟩
  case round =>
    obtain ⟨k, rfl, hk, hno⟩ := hrel
    by_cases hlt : k < l.length
    · have hcell := Hc.out k hlt
      obtain ⟨x, hx⟩ : ∃ x, l.getD k 0 = x := ⟨_, rfl⟩
      rw [hx] at hcell
      have Hx := Lib.hid hx
      clear hx
      by_cases he : n = x
      · subst he
        go_wp2
        go_ret
        exact ⟨k, by omega, rfl, rfl⟩
      · have hne : (n == x) = false := by rw [beq_eq_false_iff_ne]; exact he
        go_wp2
        go_round
        case rel => exact ⟨k + 1, by go_num, by omega, fun j hj => by
          by_cases hjk : j = k
          · subst hjk; rw [Hx.out]; exact fun h => he h.symm
          · exact hno.out j (by omega)⟩
        case measure => simp [intOf]; omega
    · exfalso
      have := isIn_none (n := n) (l := l) fun j hj => hno.out j (by omega)
      rw [this] at hin
      exact absurd hin (by decide)

theorem index_none (b : Nat) (l : List Int) (n : Int) (w : World) (hl : l.length ≤ 1000) (hc : ∀ j, j < l.length → w.cell? ⟨b, j, none⟩ = some (.int .i64 (l.getD j 0))) (hin : isIn n l = false) :
    Calls Tryd.prog 112 #[.slice (some ⟨b, 0, none⟩) l.length l.length, .int .i64 n] w fun e w' => e = .returned (.int .i64 (-1)) ∧ w = w' := by
  have Hc := Lib.hid hc
  have Hin := Lib.hid hin
  clear hc hin
  go_enter Tryd.func112, Tryd.ntmps112
  go_wp2
  go_loop [8] (fun i => ∃ k : Nat, i = .int .i64 k ∧ k ≤ l.length) (fun i => l.length - (intOf i).toNat)
  case atStart => exact ⟨0, rfl, by omega⟩
  case round =>
    obtain ⟨k, rfl, hk⟩ := hrel
    by_cases hlt : k < l.length
    · have hcell := Hc.out k hlt
      obtain ⟨x, hx⟩ : ∃ x, l.getD k 0 = x := ⟨_, rfl⟩
      rw [hx] at hcell
      have hne : (n == x) = false := by
        rw [beq_eq_false_iff_ne]
        intro he
        have := isIn_hit hlt (hx.trans he.symm)
        rw [Hin.out] at this
        exact absurd this (by decide)
      have Hx := Lib.hid hx
      clear hx
      go_wp2
      go_round
      case rel => exact ⟨k + 1, by go_num, by omega⟩
      case measure => simp [intOf]; omega
    · go_wp2
      go_ret
      exact ⟨rfl, rfl⟩

theorem contains_any (b : Nat) (l : List Int) (n : Int) (w : World) (hl : l.length ≤ 1000) (hc : ∀ j, j < l.length → w.cell? ⟨b, j, none⟩ = some (.int .i64 (l.getD j 0))) :
    Calls Tryd.prog 97 #[.slice (some ⟨b, 0, none⟩) l.length l.length, .int .i64 n] w fun e w' => e = .returned (.bool (isIn n l)) ∧ w = w' := by
  have Hc := Lib.hid hc
  clear hc
  by_cases hin : isIn n l = true
  · have Hin := Lib.hid hin
    clear hin
    go_enter Tryd.func97, Tryd.ntmps97
    go_wp2_with fail
    refine (index_hit b l n _ hl Hc.out Hin.out).mono ?_
    rintro e w' ⟨r, hr, rfl, rfl⟩
    go_wp2
    go_ret
    exact ⟨ret_bool Hin.out.symm, rfl⟩
  · have Hin := Lib.hid (by simpa using hin : isIn n l = false)
    clear hin
    go_enter Tryd.func97, Tryd.ntmps97
    go_wp2_with fail
    refine (index_none b l n _ hl Hc.out Hin.out).mono ?_
    rintro e w' ⟨rfl, rfl⟩
    go_wp2
    go_ret
    exact ⟨ret_bool Hin.out.symm, rfl⟩

theorem contains_nil (n : Int) (w : World) :
    Calls Tryd.prog 97 #[.slice none 0 0, .int .i64 n] w fun e w' => e = .returned (.bool false) ∧ w = w' := by
  go_enter Tryd.func97, Tryd.ntmps97
  go_wp2
  refine wp_loop_rounds 1 ?_
  rw [rounds_succ]
  go_wp2
  go_ret
  exact ⟨rfl, rfl⟩

theorem refin5_any (b : Nat) (l : List Int) (n : Int) (w : World) (hl : l.length ≤ 1000) (hc : ∀ j, j < l.length → w.cell? ⟨b, j, none⟩ = some (.int .i64 (l.getD j 0))) :
    Calls Tryd.prog 118 #[.int .i64 n, .slice (some ⟨b, 0, none⟩) l.length l.length] w fun e w' => e = .returned (.bool (isIn n l)) ∧ w = w' := by
  have Hc := Lib.hid hc
  clear hc
  go_enter Tryd.func118, Tryd.ntmps118
  go_wp2
  go_loop [5] (fun i => ∃ k : Nat, i = .int .i64 k ∧ k ≤ l.length ∧ Hid (∀ j, j < k → l.getD j 0 ≠ n)) (fun i => l.length - (intOf i).toNat)
  case atStart => exact ⟨0, rfl, by omega, fun j hj => absurd hj (by omega)⟩
  case round =>
    obtain ⟨k, rfl, hk, hno⟩ := hrel
    by_cases hlt : k < l.length
    · have hcell := Hc.out k hlt
      obtain ⟨x, hx⟩ : ∃ x, l.getD k 0 = x := ⟨_, rfl⟩
      rw [hx] at hcell
      have Hx := Lib.hid hx
      clear hx
      by_cases he : x = n
      · have hhit := Lib.hid (isIn_hit hlt (Hx.out.trans he))
        subst he
        go_wp2
        go_ret
        exact ⟨ret_bool hhit.out.symm, rfl⟩
      · have hne : (x == n) = false := by rw [beq_eq_false_iff_ne]; exact he
        go_wp2
        go_round
        case rel => exact ⟨k + 1, by go_num, by omega, fun j hj => by
          by_cases hjk : j = k
          · subst hjk; rw [Hx.out]; exact he
          · exact hno.out j (by omega)⟩
        case measure => simp [intOf]; omega
    · have hnone := Lib.hid (isIn_none (n := n) (l := l) fun j hj => hno.out j (by omega))
      go_wp2
      go_ret
      exact ⟨ret_bool hnone.out.symm, rfl⟩

theorem allowed_0 (n : Int) (w : World) : Calls Tryd.prog 75 #[.int .i64 0, .int .i64 n] w fun e w' => e = .returned (.bool (alw 0 n)) ∧ Below w.heap.size w w' := by
  go_enter Tryd.func75, Tryd.ntmps75
  go_wp2_with fail
  refine (contains_any _ [1, 2, 3, 8, 9, 24, 38] n _ (by decide) ?_).mono ?_
  · exact cells_new _ .i64 3 [1, 2, 3, 8, 9, 24, 38] _ (by simp)
  rintro e w' ⟨rfl, rfl⟩
  go_wp2
  go_ret
  exact ⟨rfl, by go_grown⟩

theorem allowed_1 (n : Int) (w : World) : Calls Tryd.prog 75 #[.int .i64 1, .int .i64 n] w fun e w' => e = .returned (.bool (alw 1 n)) ∧ Below w.heap.size w w' := by
  go_enter Tryd.func75, Tryd.ntmps75
  go_wp2_with fail
  refine (contains_any _ [17, 21, 22, 23, 25, 33, 34, 38, 39] n _ (by decide) ?_).mono ?_
  · exact cells_new _ .i64 3 [17, 21, 22, 23, 25, 33, 34, 38, 39] _ (by simp)
  rintro e w' ⟨rfl, rfl⟩
  go_wp2
  go_ret
  exact ⟨rfl, by go_grown⟩

theorem allowed_2 (n : Int) (w : World) : Calls Tryd.prog 75 #[.int .i64 2, .int .i64 n] w fun e w' => e = .returned (.bool (alw 2 n)) ∧ Below w.heap.size w w' := by
  go_enter Tryd.func75, Tryd.ntmps75
  go_wp2_with fail
  refine (contains_any _ [17, 18, 19, 21, 22, 26, 28, 31, 33, 34, 36, 37, 38, 39, 40, 41, 42] n _ (by decide) ?_).mono ?_
  · exact cells_new _ .i64 3 [17, 18, 19, 21, 22, 26, 28, 31, 33, 34, 36, 37, 38, 39, 40, 41, 42] _ (by simp)
  rintro e w' ⟨rfl, rfl⟩
  go_wp2
  go_ret
  exact ⟨rfl, by go_grown⟩

theorem allowed_3 (n : Int) (w : World) : Calls Tryd.prog 75 #[.int .i64 3, .int .i64 n] w fun e w' => e = .returned (.bool (alw 3 n)) ∧ Below w.heap.size w w' := by
  go_enter Tryd.func75, Tryd.ntmps75
  go_wp2_with fail
  refine (contains_any _ [1, 2, 3, 8, 9, 11, 35, 38] n _ (by decide) ?_).mono ?_
  · exact cells_new _ .i64 3 [1, 2, 3, 8, 9, 11, 35, 38] _ (by simp)
  rintro e w' ⟨rfl, rfl⟩
  go_wp2
  go_ret
  exact ⟨rfl, by go_grown⟩

theorem allowed_4 (n : Int) (w : World) : Calls Tryd.prog 75 #[.int .i64 4, .int .i64 n] w fun e w' => e = .returned (.bool (alw 4 n)) ∧ Below w.heap.size w w' := by
  go_enter Tryd.func75, Tryd.ntmps75
  go_wp2_with fail
  refine (contains_any _ [31, 38] n _ (by decide) ?_).mono ?_
  · exact cells_new _ .i64 3 [31, 38] _ (by simp)
  rintro e w' ⟨rfl, rfl⟩
  go_wp2
  go_ret
  exact ⟨rfl, by go_grown⟩

theorem allowed_5 (n : Int) (w : World) : Calls Tryd.prog 75 #[.int .i64 5, .int .i64 n] w fun e w' => e = .returned (.bool (alw 5 n)) ∧ Below w.heap.size w w' := by
  go_enter Tryd.func75, Tryd.ntmps75
  go_wp2_with fail
  refine (contains_any _ [31, 38] n _ (by decide) ?_).mono ?_
  · exact cells_new _ .i64 3 [31, 38] _ (by simp)
  rintro e w' ⟨rfl, rfl⟩
  go_wp2
  go_ret
  exact ⟨rfl, by go_grown⟩

theorem allowed_6 (n : Int) (w : World) : Calls Tryd.prog 75 #[.int .i64 6, .int .i64 n] w fun e w' => e = .returned (.bool (alw 6 n)) ∧ Below w.heap.size w w' := by
  go_enter Tryd.func75, Tryd.ntmps75
  go_wp2_with fail
  refine (contains_any _ [31, 38] n _ (by decide) ?_).mono ?_
  · exact cells_new _ .i64 3 [31, 38] _ (by simp)
  rintro e w' ⟨rfl, rfl⟩
  go_wp2
  go_ret
  exact ⟨rfl, by go_grown⟩

theorem allowed_7 (n : Int) (w : World) : Calls Tryd.prog 75 #[.int .i64 7, .int .i64 n] w fun e w' => e = .returned (.bool (alw 7 n)) ∧ Below w.heap.size w w' := by
  go_enter Tryd.func75, Tryd.ntmps75
  go_wp2_with fail
  refine (contains_any _ [31, 38] n _ (by decide) ?_).mono ?_
  · exact cells_new _ .i64 3 [31, 38] _ (by simp)
  rintro e w' ⟨rfl, rfl⟩
  go_wp2
  go_ret
  exact ⟨rfl, by go_grown⟩

theorem allowed_8 (n : Int) (w : World) : Calls Tryd.prog 75 #[.int .i64 8, .int .i64 n] w fun e w' => e = .returned (.bool (alw 8 n)) ∧ Below w.heap.size w w' := by
  go_enter Tryd.func75, Tryd.ntmps75
  go_wp2_with fail
  refine (contains_any _ [11, 38] n _ (by decide) ?_).mono ?_
  · exact cells_new _ .i64 3 [11, 38] _ (by simp)
  rintro e w' ⟨rfl, rfl⟩
  go_wp2
  go_ret
  exact ⟨rfl, by go_grown⟩

theorem allowed_9 (n : Int) (w : World) : Calls Tryd.prog 75 #[.int .i64 9, .int .i64 n] w fun e w' => e = .returned (.bool (alw 9 n)) ∧ Below w.heap.size w w' := by
  go_enter Tryd.func75, Tryd.ntmps75
  go_wp2_with fail
  refine (contains_any _ [31, 38] n _ (by decide) ?_).mono ?_
  · exact cells_new _ .i64 3 [31, 38] _ (by simp)
  rintro e w' ⟨rfl, rfl⟩
  go_wp2
  go_ret
  exact ⟨rfl, by go_grown⟩

theorem allowed_10 (n : Int) (w : World) : Calls Tryd.prog 75 #[.int .i64 10, .int .i64 n] w fun e w' => e = .returned (.bool (alw 10 n)) ∧ Below w.heap.size w w' := by
  go_enter Tryd.func75, Tryd.ntmps75
  go_wp2_with fail
  refine (contains_any _ [38] n _ (by decide) ?_).mono ?_
  · exact cells_new _ .i64 3 [38] _ (by simp)
  rintro e w' ⟨rfl, rfl⟩
  go_wp2
  go_ret
  exact ⟨rfl, by go_grown⟩

theorem allowed_11 (n : Int) (w : World) : Calls Tryd.prog 75 #[.int .i64 11, .int .i64 n] w fun e w' => e = .returned (.bool (alw 11 n)) ∧ Below w.heap.size w w' := by
  go_enter Tryd.func75, Tryd.ntmps75
  go_wp2_with fail
  refine (contains_any _ [31, 38] n _ (by decide) ?_).mono ?_
  · exact cells_new _ .i64 3 [31, 38] _ (by simp)
  rintro e w' ⟨rfl, rfl⟩
  go_wp2
  go_ret
  exact ⟨rfl, by go_grown⟩

theorem allowed_14 (n : Int) (w : World) : Calls Tryd.prog 75 #[.int .i64 14, .int .i64 n] w fun e w' => e = .returned (.bool (alw 14 n)) ∧ Below w.heap.size w w' := by
  go_enter Tryd.func75, Tryd.ntmps75
  go_wp2_with fail
  refine (contains_any _ [17, 28, 31, 38] n _ (by decide) ?_).mono ?_
  · exact cells_new _ .i64 3 [17, 28, 31, 38] _ (by simp)
  rintro e w' ⟨rfl, rfl⟩
  go_wp2
  go_ret
  exact ⟨rfl, by go_grown⟩

theorem allowed_15 (n : Int) (w : World) : Calls Tryd.prog 75 #[.int .i64 15, .int .i64 n] w fun e w' => e = .returned (.bool (alw 15 n)) ∧ Below w.heap.size w w' := by
  go_enter Tryd.func75, Tryd.ntmps75
  go_wp2_with fail
  refine (contains_any _ [21, 22, 31, 38] n _ (by decide) ?_).mono ?_
  · exact cells_new _ .i64 3 [21, 22, 31, 38] _ (by simp)
  rintro e w' ⟨rfl, rfl⟩
  go_wp2
  go_ret
  exact ⟨rfl, by go_grown⟩

theorem allowed_other (k n : Int) (w : World) (h0 : (k == 0) = false) (h1 : (k == 1) = false) (h2 : (k == 2) = false) (h3 : (k == 3) = false) (h4 : (k == 4) = false) (h5 : (k == 5) = false) (h6 : (k == 6) = false) (h7 : (k == 7) = false) (h8 : (k == 8) = false) (h9 : (k == 9) = false) (h10 : (k == 10) = false) (h11 : (k == 11) = false) (h14 : (k == 14) = false) (h15 : (k == 15) = false) : Calls Tryd.prog 75 #[.int .i64 k, .int .i64 n] w fun e w' => e = .returned (.bool (alw k n)) ∧ Below w.heap.size w w' := by
  have hn := Lib.hid (alw_other n h0 h1 h2 h3 h4 h5 h6 h7 h8 h9 h10 h11 h14 h15)
  go_enter Tryd.func75, Tryd.ntmps75
  go_wp2_with fail
  refine (contains_nil n _).mono ?_
  rintro e w' ⟨rfl, rfl⟩
  go_wp2
  go_ret
  exact ⟨ret_bool hn.out.symm, Below.refl _ _⟩

theorem allowed_any (k n : Int) (w : World) : Calls Tryd.prog 75 #[.int .i64 k, .int .i64 n] w fun e w' => e = .returned (.bool (alw k n)) ∧ Below w.heap.size w w' := by
  by_cases h0 : k = 0
  · subst h0; exact allowed_0 n w
  by_cases h1 : k = 1
  · subst h1; exact allowed_1 n w
  by_cases h2 : k = 2
  · subst h2; exact allowed_2 n w
  by_cases h3 : k = 3
  · subst h3; exact allowed_3 n w
  by_cases h4 : k = 4
  · subst h4; exact allowed_4 n w
  by_cases h5 : k = 5
  · subst h5; exact allowed_5 n w
  by_cases h6 : k = 6
  · subst h6; exact allowed_6 n w
  by_cases h7 : k = 7
  · subst h7; exact allowed_7 n w
  by_cases h8 : k = 8
  · subst h8; exact allowed_8 n w
  by_cases h9 : k = 9
  · subst h9; exact allowed_9 n w
  by_cases h10 : k = 10
  · subst h10; exact allowed_10 n w
  by_cases h11 : k = 11
  · subst h11; exact allowed_11 n w
  by_cases h14 : k = 14
  · subst h14; exact allowed_14 n w
  by_cases h15 : k = 15
  · subst h15; exact allowed_15 n w
  exact allowed_other k n w (beq_eq_false_iff_ne.2 h0) (beq_eq_false_iff_ne.2 h1) (beq_eq_false_iff_ne.2 h2) (beq_eq_false_iff_ne.2 h3) (beq_eq_false_iff_ne.2 h4) (beq_eq_false_iff_ne.2 h5) (beq_eq_false_iff_ne.2 h6) (beq_eq_false_iff_ne.2 h7) (beq_eq_false_iff_ne.2 h8) (beq_eq_false_iff_ne.2 h9) (beq_eq_false_iff_ne.2 h10) (beq_eq_false_iff_ne.2 h11) (beq_eq_false_iff_ne.2 h14) (beq_eq_false_iff_ne.2 h15)

theorem refallowed_0 (n : Int) (w : World) : Calls Tryd.prog 107 #[.int .i64 0, .int .i64 n] w fun e w' => e = .returned (.bool (alw 0 n)) ∧ Below w.heap.size w w' := by
  go_enter Tryd.func107, Tryd.ntmps107
  go_wp2_with fail
  refine (refin5_any _ [1, 2, 3, 8, 9, 24, 38] n _ (by decide) ?_).mono ?_
  · exact cells_new _ .i64 3 [1, 2, 3, 8, 9, 24, 38] _ (by simp)
  rintro e w' ⟨rfl, rfl⟩
  go_wp2
  go_ret
  exact ⟨rfl, by go_grown⟩

theorem refallowed_1 (n : Int) (w : World) : Calls Tryd.prog 107 #[.int .i64 1, .int .i64 n] w fun e w' => e = .returned (.bool (alw 1 n)) ∧ Below w.heap.size w w' := by
  go_enter Tryd.func107, Tryd.ntmps107
  go_wp2_with fail
  refine (refin5_any _ [17, 21, 22, 23, 25, 33, 34, 38, 39] n _ (by decide) ?_).mono ?_
  · exact cells_new _ .i64 3 [17, 21, 22, 23, 25, 33, 34, 38, 39] _ (by simp)
  rintro e w' ⟨rfl, rfl⟩
  go_wp2
  go_ret
  exact ⟨rfl, by go_grown⟩

theorem refallowed_2 (n : Int) (w : World) : Calls Tryd.prog 107 #[.int .i64 2, .int .i64 n] w fun e w' => e = .returned (.bool (alw 2 n)) ∧ Below w.heap.size w w' := by
  rw [alw_2 n]
  obtain ⟨a, ha⟩ : ∃ a, isIn n [17, 18, 19, 21, 22, 26, 28, 31, 33, 34] = a := ⟨_, rfl⟩
  rw [ha]
  cases a
  all_goals
    go_enter Tryd.func107, Tryd.ntmps107
    go_wp2_with fail
    refine (refin5_any _ [17, 18, 19, 21, 22, 26, 28, 31, 33, 34] n _ (by decide) ?_).mono ?_
    · exact cells_new _ .i64 3 [17, 18, 19, 21, 22, 26, 28, 31, 33, 34] _ (by simp)
    rintro e w' ⟨rfl, rfl⟩
    rw [ha]
    go_wp2
    all_goals go_ret
    all_goals exact ⟨by first | rfl | (simp; done) | (simp; omega), by go_grown⟩

theorem refallowed_3 (n : Int) (w : World) : Calls Tryd.prog 107 #[.int .i64 3, .int .i64 n] w fun e w' => e = .returned (.bool (alw 3 n)) ∧ Below w.heap.size w w' := by
  go_enter Tryd.func107, Tryd.ntmps107
  go_wp2_with fail
  refine (refin5_any _ [1, 2, 3, 8, 9, 11, 35, 38] n _ (by decide) ?_).mono ?_
  · exact cells_new _ .i64 3 [1, 2, 3, 8, 9, 11, 35, 38] _ (by simp)
  rintro e w' ⟨rfl, rfl⟩
  go_wp2
  go_ret
  exact ⟨rfl, by go_grown⟩

theorem refallowed_4 (n : Int) (w : World) : Calls Tryd.prog 107 #[.int .i64 4, .int .i64 n] w fun e w' => e = .returned (.bool (alw 4 n)) ∧ Below w.heap.size w w' := by
  have hn := Lib.hid (show alw 4 n = _ from isIn_two n 31 38)
  go_enter Tryd.func107, Tryd.ntmps107
  go_wp2
  all_goals go_ret
  all_goals exact ⟨by first | exact ret_bool hn.out.symm | (rw [hn.out]; simp [*]), Below.refl _ _⟩

theorem refallowed_5 (n : Int) (w : World) : Calls Tryd.prog 107 #[.int .i64 5, .int .i64 n] w fun e w' => e = .returned (.bool (alw 5 n)) ∧ Below w.heap.size w w' := by
  have hn := Lib.hid (show alw 5 n = _ from isIn_two n 31 38)
  go_enter Tryd.func107, Tryd.ntmps107
  go_wp2
  all_goals go_ret
  all_goals exact ⟨by first | exact ret_bool hn.out.symm | (rw [hn.out]; simp [*]), Below.refl _ _⟩

theorem refallowed_6 (n : Int) (w : World) : Calls Tryd.prog 107 #[.int .i64 6, .int .i64 n] w fun e w' => e = .returned (.bool (alw 6 n)) ∧ Below w.heap.size w w' := by
  have hn := Lib.hid (show alw 6 n = _ from isIn_two n 31 38)
  go_enter Tryd.func107, Tryd.ntmps107
  go_wp2
  all_goals go_ret
  all_goals exact ⟨by first | exact ret_bool hn.out.symm | (rw [hn.out]; simp [*]), Below.refl _ _⟩

theorem refallowed_7 (n : Int) (w : World) : Calls Tryd.prog 107 #[.int .i64 7, .int .i64 n] w fun e w' => e = .returned (.bool (alw 7 n)) ∧ Below w.heap.size w w' := by
  have hn := Lib.hid (show alw 7 n = _ from isIn_two n 31 38)
  go_enter Tryd.func107, Tryd.ntmps107
  go_wp2
  all_goals go_ret
  all_goals exact ⟨by first | exact ret_bool hn.out.symm | (rw [hn.out]; simp [*]), Below.refl _ _⟩

theorem refallowed_8 (n : Int) (w : World) : Calls Tryd.prog 107 #[.int .i64 8, .int .i64 n] w fun e w' => e = .returned (.bool (alw 8 n)) ∧ Below w.heap.size w w' := by
  have hn := Lib.hid (show alw 8 n = _ from isIn_two n 11 38)
  go_enter Tryd.func107, Tryd.ntmps107
  go_wp2
  all_goals go_ret
  all_goals exact ⟨by first | exact ret_bool hn.out.symm | (rw [hn.out]; simp [*]), Below.refl _ _⟩

theorem refallowed_9 (n : Int) (w : World) : Calls Tryd.prog 107 #[.int .i64 9, .int .i64 n] w fun e w' => e = .returned (.bool (alw 9 n)) ∧ Below w.heap.size w w' := by
  have hn := Lib.hid (show alw 9 n = _ from isIn_two n 31 38)
  go_enter Tryd.func107, Tryd.ntmps107
  go_wp2
  all_goals go_ret
  all_goals exact ⟨by first | exact ret_bool hn.out.symm | (rw [hn.out]; simp [*]), Below.refl _ _⟩

theorem refallowed_10 (n : Int) (w : World) : Calls Tryd.prog 107 #[.int .i64 10, .int .i64 n] w fun e w' => e = .returned (.bool (alw 10 n)) ∧ Below w.heap.size w w' := by
  have hn := Lib.hid (show alw 10 n = _ from isIn_one n 38)
  go_enter Tryd.func107, Tryd.ntmps107
  go_wp2
  all_goals go_ret
  all_goals exact ⟨by first | exact ret_bool hn.out.symm | (rw [hn.out]; simp [*]), Below.refl _ _⟩

theorem refallowed_11 (n : Int) (w : World) : Calls Tryd.prog 107 #[.int .i64 11, .int .i64 n] w fun e w' => e = .returned (.bool (alw 11 n)) ∧ Below w.heap.size w w' := by
  have hn := Lib.hid (show alw 11 n = _ from isIn_two n 31 38)
  go_enter Tryd.func107, Tryd.ntmps107
  go_wp2
  all_goals go_ret
  all_goals exact ⟨by first | exact ret_bool hn.out.symm | (rw [hn.out]; simp [*]), Below.refl _ _⟩

theorem refallowed_14 (n : Int) (w : World) : Calls Tryd.prog 107 #[.int .i64 14, .int .i64 n] w fun e w' => e = .returned (.bool (alw 14 n)) ∧ Below w.heap.size w w' := by
  go_enter Tryd.func107, Tryd.ntmps107
  go_wp2_with fail
  refine (refin5_any _ [17, 28, 31, 38] n _ (by decide) ?_).mono ?_
  · exact cells_new _ .i64 3 [17, 28, 31, 38] _ (by simp)
  rintro e w' ⟨rfl, rfl⟩
  go_wp2
  go_ret
  exact ⟨rfl, by go_grown⟩

theorem refallowed_15 (n : Int) (w : World) : Calls Tryd.prog 107 #[.int .i64 15, .int .i64 n] w fun e w' => e = .returned (.bool (alw 15 n)) ∧ Below w.heap.size w w' := by
  go_enter Tryd.func107, Tryd.ntmps107
  go_wp2_with fail
  refine (refin5_any _ [21, 22, 31, 38] n _ (by decide) ?_).mono ?_
  · exact cells_new _ .i64 3 [21, 22, 31, 38] _ (by simp)
  rintro e w' ⟨rfl, rfl⟩
  go_wp2
  go_ret
  exact ⟨rfl, by go_grown⟩

theorem refallowed_other (k n : Int) (w : World) (h0 : (k == 0) = false) (h1 : (k == 1) = false) (h2 : (k == 2) = false) (h3 : (k == 3) = false) (h4 : (k == 4) = false) (h5 : (k == 5) = false) (h6 : (k == 6) = false) (h7 : (k == 7) = false) (h8 : (k == 8) = false) (h9 : (k == 9) = false) (h10 : (k == 10) = false) (h11 : (k == 11) = false) (h14 : (k == 14) = false) (h15 : (k == 15) = false) : Calls Tryd.prog 107 #[.int .i64 k, .int .i64 n] w fun e w' => e = .returned (.bool (alw k n)) ∧ Below w.heap.size w w' := by
  have hn := Lib.hid (alw_other n h0 h1 h2 h3 h4 h5 h6 h7 h8 h9 h10 h11 h14 h15)
  go_enter Tryd.func107, Tryd.ntmps107
  go_wp2
  go_ret
  exact ⟨ret_bool hn.out.symm, Below.refl _ _⟩

theorem refallowed_any (k n : Int) (w : World) : Calls Tryd.prog 107 #[.int .i64 k, .int .i64 n] w fun e w' => e = .returned (.bool (alw k n)) ∧ Below w.heap.size w w' := by
  by_cases h0 : k = 0
  · subst h0; exact refallowed_0 n w
  by_cases h1 : k = 1
  · subst h1; exact refallowed_1 n w
  by_cases h2 : k = 2
  · subst h2; exact refallowed_2 n w
  by_cases h3 : k = 3
  · subst h3; exact refallowed_3 n w
  by_cases h4 : k = 4
  · subst h4; exact refallowed_4 n w
  by_cases h5 : k = 5
  · subst h5; exact refallowed_5 n w
  by_cases h6 : k = 6
  · subst h6; exact refallowed_6 n w
  by_cases h7 : k = 7
  · subst h7; exact refallowed_7 n w
  by_cases h8 : k = 8
  · subst h8; exact refallowed_8 n w
  by_cases h9 : k = 9
  · subst h9; exact refallowed_9 n w
  by_cases h10 : k = 10
  · subst h10; exact refallowed_10 n w
  by_cases h11 : k = 11
  · subst h11; exact refallowed_11 n w
  by_cases h14 : k = 14
  · subst h14; exact refallowed_14 n w
  by_cases h15 : k = 15
  · subst h15; exact refallowed_15 n w
  exact refallowed_other k n w (beq_eq_false_iff_ne.2 h0) (beq_eq_false_iff_ne.2 h1) (beq_eq_false_iff_ne.2 h2) (beq_eq_false_iff_ne.2 h3) (beq_eq_false_iff_ne.2 h4) (beq_eq_false_iff_ne.2 h5) (beq_eq_false_iff_ne.2 h6) (beq_eq_false_iff_ne.2 h7) (beq_eq_false_iff_ne.2 h8) (beq_eq_false_iff_ne.2 h9) (beq_eq_false_iff_ne.2 h10) (beq_eq_false_iff_ne.2 h11) (beq_eq_false_iff_ne.2 h14) (beq_eq_false_iff_ne.2 h15)
end Go.Proofs.YtedapgeabpadaaaDoor

/- The walks of a writer's props, of slices.ContainsFunc at properties. -/
set_option linter.unusedVariables false
namespace Go.Proofs.YtedapgeabpadaaaDoor
open Go.Shelf Go.RowKit Pl

theorem propsC_any (K : Nat) (k : Int) (p : Pp) (w : World) (hK : w.cell? ⟨K, 0, none⟩ = some (.int .i64 k)) (hl : K < w.heap.size) :
    Calls Tryd.prog 74 #[.agg #[.int .i64 p.id, .int .i64 p.n, .string p.s, .string p.t], .pointer (some ⟨K, 0, none⟩)] w fun e w' => e = .returned (.bool (!alw k p.id)) ∧ Below w.heap.size w w' := by
  have e1 : (w.alloc (.cells #[.int .i64 p.id, .int .i64 p.n, .string p.s, .string p.t] 123)).cell? ⟨K, 0, none⟩ = some (.int .i64 k) := (World.cell?_alloc_past _ _ _ hl).trans hK
  have b0 : Below w.heap.size w (w.alloc (.cells #[.int .i64 p.id, .int .i64 p.n, .string p.s, .string p.t] 123)) := (Below.refl _ _).alloc (Nat.le_refl _) _
  obtain ⟨t, ht⟩ : ∃ t, alw k p.id = t := ⟨_, rfl⟩
  have CA : ∀ X : World, Calls Tryd.prog 75 #[.int .i64 k, .int .i64 p.id] X fun e w' => e = .returned (.bool t) ∧ Below X.heap.size X w' := fun X => by rw [← ht]; exact allowed_any k p.id X
  rw [ht]
  have CA := Lib.hid CA
  have B0 := Lib.hid b0
  clear ht b0
  cases t
  · go_enter Tryd.func74, Tryd.ntmps74
    go_wp2_with fail
    (with_reducible refine (CA.out _).mono ?_)
    rintro e w1 ⟨rfl, b1⟩
    go_wp2
    go_ret
    exact ⟨rfl, B0.out.trans (b1.mono B0.out.size)⟩
  · go_enter Tryd.func74, Tryd.ntmps74
    go_wp2_with fail
    (with_reducible refine (CA.out _).mono ?_)
    rintro e w1 ⟨rfl, b1⟩
    go_wp2
    go_ret
    exact ⟨rfl, B0.out.trans (b1.mono B0.out.size)⟩
theorem pcontains_any (fn : Nat) (first cp : Array Value) (q : Pp → Bool) (A : Option Addr) (n cap : Nat) (L : List Pp) (w : World) (hn : L.length = n) (hm : n ≤ 1048576) (h : PRow w A L)
    (he : ∀ args w, (callFunc fn args).run Tryd.prog w = .ok (.enter fn args) w)
    (hf : ∀ (p : Pp) (W : World), Below w.heap.size w W → Calls Tryd.prog fn (first.push (.agg #[.int .i64 p.id, .int .i64 p.n, .string p.s, .string p.t]) ++ cp) W fun e w' => e = .returned (.bool (q p)) ∧ Below W.heap.size W w') :
    Calls Tryd.prog 73 #[.slice A n cap, .func (.func fn) first cp] w fun e w' => e = .returned (.bool (L.any q)) ∧ Below w.heap.size w w' := by
  have C := Lib.hid (pindex_any fn first cp q A n cap L w hn hm h he hf)
  have hany : L.any q = (L.find? q).isSome := by rw [List.isSome_find?]
  rw [hany]
  clear hany
  obtain ⟨t, ht⟩ : ∃ t, (L.find? q).isSome = t := ⟨_, rfl⟩
  rw [ht]
  have HT := Lib.hid ht
  clear ht h hn hf
  cases t
  · go_enter Tryd.func73, Tryd.ntmps73
    go_wp2_with fail
    (with_reducible refine C.out.mono ?_)
    rintro e w1 ⟨z, rfl, hz, b1⟩
    have hz1 : z < 0 := by
      rcases hz with ⟨rfl, _⟩ | ⟨k, p, rfl, _, hs⟩
      · decide
      · have := HT.out; rw [hs] at this; cases this
    have hz2 : decide ((0 : Int) ≤ z) = false := by rw [decide_eq_false_iff_not]; omega
    clear hz hz1
    go_wp2
    go_ret
    exact ⟨rfl, b1⟩
  · go_enter Tryd.func73, Tryd.ntmps73
    go_wp2_with fail
    (with_reducible refine C.out.mono ?_)
    rintro e w1 ⟨z, rfl, hz, b1⟩
    have hz1 : 0 ≤ z := by
      rcases hz with ⟨rfl, hs⟩ | ⟨k, p, rfl, _, hs⟩
      · have := HT.out; rw [hs] at this; cases this
      · omega
    clear hz
    go_wp2
    go_ret
    exact ⟨rfl, b1⟩
set_option maxHeartbeats 1000000 in
theorem wprops_any (W0 : World) (b : Nat) (o : Ot) (k : Int) (A : Option Addr) (n cap : Nat) (L : List Pp) (w : World) (hn : L.length = n) (hc : n ≤ cap) (hm : n ≤ 1048576) (hL : PRow W0 A L) (hz : ∀ p ∈ L, p.fits) (hs : o.s.size ≤ 1099511627776) (h : Wst W0 b o w) (hT : Tabs W0) :
    Calls Tryd.prog 42 #[.pointer (some ⟨b, 0, none⟩), .int .i64 k, .slice A n cap] w fun e w' => WPost W0 b (wProps k o L) w w' e := by
  have hK := Blk.new w #[.int .i64 k] 38
  have hA := h.alloc (.cells #[.int .i64 k] 38)
  have mA : ModT wT w (w.alloc (.cells #[.int .i64 k] 38)) := ModT.of_below ((Below.refl _ _).alloc (Nat.le_refl _) _)
  obtain ⟨W, hW⟩ : ∃ W, w.alloc (.cells #[.int .i64 k] 38) = W := ⟨_, rfl⟩
  rw [hW] at hK hA mA
  have CP := Lib.hid (pput_any A n cap L W hn hc hm (hL.below hA.below) hz (hT.below hA.below))
  have HW := Lib.hid hW
  have HK := Lib.hid hK
  have HA := Lib.hid hA
  have MA := Lib.hid mA
  have HL := Lib.hid hL
  have HN := Lib.hid hn
  have HS := Lib.hid hs
  obtain ⟨t, ht⟩ : ∃ t, (L.any fun p => !alw k p.id) = t := ⟨_, rfl⟩
  have CC : ∀ X : World, Below W0.heap.size W0 X → Blk X w.heap.size #[.int .i64 k] 38 → Calls Tryd.prog 73 #[.slice A n cap, .func (.func 74) #[] #[.pointer (some ⟨w.heap.size, 0, none⟩)]] X fun e w' => e = .returned (.bool t) ∧ Below X.heap.size X w' := fun X hx hk => by
    rw [← ht]
    exact pcontains_any 74 #[] #[.pointer (some ⟨w.heap.size, 0, none⟩)] (fun p => !alw k p.id) A n cap L X hn hm (hL.below hx) (enters_of Tryd.func74 (by kernel_rfl) rfl) (fun p Y hy => propsC_any w.heap.size k p Y ((hk.of_below hy).cell 0) (hk.of_below hy).lt)
  have CC := Lib.hid CC
  have HT := Lib.hid ht
  clear hW hK hA mA hL hn hs h ht
  cases t
  · have e : wProps k o L = o.add (ppS L) (ppC L) := by unfold wProps okAll; rw [HT.out]; rfl
    rw [e]
    clear e
    go_enter Tryd.func42, Tryd.ntmps42
    go_wp2_with fail
    rw [HW.out]
    (with_reducible refine CP.out.mono ?_)
    rintro e w1 ⟨rfl, b1⟩
    have H1 := Lib.hid (HA.out.step b1)
    have K1 := Lib.hid (HK.out.of_below b1)
    have M1 := Lib.hid (MA.out.trans (ModT.of_below b1))
    have CQ := Lib.hid (wpart_any W0 b o (ppS L) (ppC L) w1 (by have := HS.out; have h2 := ppS_small L; omega) H1.out)
    clear b1
    go_wp2_with fail
    (with_reducible refine CQ.out.mono ?_)
    rintro e w2 ⟨rfl, h2, m2⟩
    have H2 := Lib.hid h2
    have K2 := Lib.hid (K1.out.modT m2 (by unfold wT; decide))
    have M2 := Lib.hid (M1.out.trans m2)
    have CD := Lib.hid (CC.out w2 H2.out.below K2.out)
    clear h2 m2
    go_wp2_with fail
    (with_reducible refine CD.out.mono ?_)
    rintro e w3 ⟨rfl, b3⟩
    go_wp2
    go_end0
    exact ⟨rfl, H2.out.step b3, M2.out.trans (ModT.of_below b3)⟩
  · have e : wProps k o L = (o.add (ppS L) (ppC L)).fail 130 := by unfold wProps okAll; rw [HT.out]; rfl
    rw [e]
    clear e
    go_enter Tryd.func42, Tryd.ntmps42
    go_wp2_with fail
    rw [HW.out]
    (with_reducible refine CP.out.mono ?_)
    rintro e w1 ⟨rfl, b1⟩
    have H1 := Lib.hid (HA.out.step b1)
    have K1 := Lib.hid (HK.out.of_below b1)
    have M1 := Lib.hid (MA.out.trans (ModT.of_below b1))
    have CQ := Lib.hid (wpart_any W0 b o (ppS L) (ppC L) w1 (by have := HS.out; have h2 := ppS_small L; omega) H1.out)
    clear b1
    go_wp2_with fail
    (with_reducible refine CQ.out.mono ?_)
    rintro e w2 ⟨rfl, h2, m2⟩
    have H2 := Lib.hid h2
    have K2 := Lib.hid (K1.out.modT m2 (by unfold wT; decide))
    have M2 := Lib.hid (M1.out.trans m2)
    have CD := Lib.hid (CC.out w2 H2.out.below K2.out)
    clear h2 m2
    go_wp2_with fail
    (with_reducible refine CD.out.mono ?_)
    rintro e w3 ⟨rfl, b3⟩
    have M3 := Lib.hid (M2.out.trans (ModT.of_below b3))
    have CF := Lib.hid (wfail_any W0 b _ 130 w3 (H2.out.step b3))
    clear b3
    go_wp2_with fail
    (with_reducible refine CF.out.mono ?_)
    rintro e w4 ⟨rfl, h4, m4⟩
    go_wp2
    go_end0
    exact ⟨rfl, h4, M3.out.trans m4⟩
end Go.Proofs.YtedapgeabpadaaaDoor

/- The walks of a reader's number and string (package prop). -/
namespace Go.Proofs.YtedapgeabpadaaaDoor
set_option linter.unusedVariables false
open Go.RowKit Pl

abbrev S2r (X : World) (R : Nat) (s : ByteArray) (a : Int) : Prop := X.cell? ⟨R, 0, none⟩ = some (.string s) ∧ X.cell? ⟨R, 1, none⟩ = some (.int .i64 a)
def rdA (s : ByteArray) (a : Int) (bad : Bool) : Array Value := #[.string s, .int .i64 a, .bool bad]
theorem s2r_blw {X Y : World} {R : Nat} {s : ByteArray} {a : Int} (h : S2r X R s a) (hR : R < X.heap.size) (hb : Below X.heap.size X Y) : S2r Y R s a :=
  ⟨(hb.cell (p := ⟨R, 0, none⟩) hR).trans h.1, (hb.cell (p := ⟨R, 1, none⟩) hR).trans h.2⟩
set_option maxHeartbeats 4000000 in
theorem number_any (fn : Nat) (cp : Array Value) (R : Nat) (s : ByteArray) (a n tu c : Int) (w : World) (hR : Blk w R (rdA s a false) 172)
    (he : ∀ args w, (callFunc fn args).run Tryd.prog w = .ok (.enter fn args) w)
    (hf : ∀ W, Below w.heap.size w W → Calls Tryd.prog fn (#[.string s, .int .i64 a] ++ cp) W fun e w' => e = .returned (.tuple #[.int .i64 n, .int .i64 tu, .int .u8 c]) ∧ Below W.heap.size W w') :
    Calls Tryd.prog 99 #[.pointer (some ⟨R, 0, none⟩), .func (.func fn) #[] cp] w fun e w' => e = .returned (.int .i64 (if c = 0 then n else 0)) ∧ Blk w' R (rdA s (if c = 0 then tu else a) (c != 0)) 172 ∧ Mod (· = R) w w' := by
  have h0 := hR.cell 0
  have h1 := hR.cell 1
  have h2 := hR.cell 2
  have f1 := hR.frozen 1
  have f2 := hR.frozen 2
  have hl := hR.lt
  simp only [rdA, List.getElem?_toArray, List.getElem?_cons_zero, List.getElem?_cons_succ] at h0 h1 h2
  have hs0 : S2r w R s a := ⟨h0, h1⟩
  have HF := Lib.hid hf
  have HB := Lib.hid hR
  have bd : Below w.heap.size w w.drew := (Below.refl _ _).drew
  have hsd : S2r w.drew R s a := hs0
  have h2d : w.drew.cell? ⟨R, 2, none⟩ = some (.bool false) := h2
  have CF := Lib.hid (hf w.drew bd)
  clear hf hR h0 h1
  by_cases hc : c = 0
  · subst hc
    go_enter Tryd.func99, Tryd.ntmps99
    go_wp2_with fail
    go_region_held3 (fun X => S2r X R s a) (first | (with_reducible assumption) | exact hs0 | exact hsd | exact y1) (first | (go_at_fn fn; refine CF.out.mono ?_; rintro e w1 ⟨rfl, b1⟩; have y1 : S2r w1 R s a := s2r_blw hsd hl b1) | (fail))
    all_goals
      have hB1 := Lib.hid (HB.out.of_below (bd.trans b1))
      have hm1 := Lib.hid (Mod.of_below (S := (· = R)) (bd.trans b1))
      have g2 := (b1.cell (p := ⟨R, 2, none⟩) hl).trans h2d
      have k1 := hB1.out.frozen 1
      have k2 := hB1.out.frozen 2
      obtain ⟨y10, y11⟩ := y1
      clear b1
      go_wp2
      go_ret
      exact ⟨rfl, (hB1.out.set 2 _).set 1 _, (hm1.out.setCell (.inl rfl) _).setCell (.inl rfl) _⟩
  · have e0 : (c == 0) = false := by rw [beq_eq_false_iff_ne]; exact hc
    have e1 : (c != 0) = true := by rw [bne, e0]; rfl
    rw [if_neg hc, if_neg hc, e1]
    go_enter Tryd.func99, Tryd.ntmps99
    go_wp2_with fail
    go_region_held3 (fun X => S2r X R s a) (first | (with_reducible assumption) | exact hs0 | exact hsd | exact y1) (first | (go_at_fn fn; refine CF.out.mono ?_; rintro e w1 ⟨rfl, b1⟩; have y1 : S2r w1 R s a := s2r_blw hsd hl b1) | (fail))
    all_goals
      have hB1 := Lib.hid (HB.out.of_below (bd.trans b1))
      have hm1 := Lib.hid (Mod.of_below (S := (· = R)) (bd.trans b1))
      have g2 := (b1.cell (p := ⟨R, 2, none⟩) hl).trans h2d
      have k1 := hB1.out.frozen 1
      have k2 := hB1.out.frozen 2
      obtain ⟨y10, y11⟩ := y1
      clear b1
      go_wp2
      go_ret
      exact ⟨rfl, (hB1.out.set 2 _), hm1.out.setCell (.inl rfl) _⟩
set_option maxHeartbeats 4000000 in
theorem string_any (fn : Nat) (cp : Array Value) (R : Nat) (s : ByteArray) (u : ByteArray) (a tu c : Int) (w : World) (hR : Blk w R (rdA s a false) 172)
    (he : ∀ args w, (callFunc fn args).run Tryd.prog w = .ok (.enter fn args) w)
    (hf : ∀ W, Below w.heap.size w W → Calls Tryd.prog fn (#[.string s, .int .i64 a] ++ cp) W fun e w' => e = .returned (.tuple #[.string u, .int .i64 tu, .int .u8 c]) ∧ Below W.heap.size W w') :
    Calls Tryd.prog 113 #[.pointer (some ⟨R, 0, none⟩), .func (.func fn) #[] cp] w fun e w' => e = .returned (.string (if c = 0 then u else noS)) ∧ Blk w' R (rdA s (if c = 0 then tu else a) (c != 0)) 172 ∧ Mod (· = R) w w' := by
  have h0 := hR.cell 0
  have h1 := hR.cell 1
  have h2 := hR.cell 2
  have f1 := hR.frozen 1
  have f2 := hR.frozen 2
  have hl := hR.lt
  simp only [rdA, List.getElem?_toArray, List.getElem?_cons_zero, List.getElem?_cons_succ] at h0 h1 h2
  have hs0 : S2r w R s a := ⟨h0, h1⟩
  have HF := Lib.hid hf
  have HB := Lib.hid hR
  have bd : Below w.heap.size w w.drew := (Below.refl _ _).drew
  have hsd : S2r w.drew R s a := hs0
  have h2d : w.drew.cell? ⟨R, 2, none⟩ = some (.bool false) := h2
  have CF := Lib.hid (hf w.drew bd)
  clear hf hR h0 h1
  by_cases hc : c = 0
  · subst hc
    go_enter Tryd.func113, Tryd.ntmps113
    go_wp2_with fail
    go_region_held3 (fun X => S2r X R s a) (first | (with_reducible assumption) | exact hs0 | exact hsd | exact y1) (first | (go_at_fn fn; refine CF.out.mono ?_; rintro e w1 ⟨rfl, b1⟩; have y1 : S2r w1 R s a := s2r_blw hsd hl b1) | (fail))
    all_goals
      have hB1 := Lib.hid (HB.out.of_below (bd.trans b1))
      have hm1 := Lib.hid (Mod.of_below (S := (· = R)) (bd.trans b1))
      have g2 := (b1.cell (p := ⟨R, 2, none⟩) hl).trans h2d
      have k1 := hB1.out.frozen 1
      have k2 := hB1.out.frozen 2
      obtain ⟨y10, y11⟩ := y1
      clear b1
      go_wp2
      go_ret
      exact ⟨rfl, (hB1.out.set 2 _).set 1 _, (hm1.out.setCell (.inl rfl) _).setCell (.inl rfl) _⟩
  · have e0 : (c == 0) = false := by rw [beq_eq_false_iff_ne]; exact hc
    have e1 : (c != 0) = true := by rw [bne, e0]; rfl
    rw [if_neg hc, if_neg hc, e1]
    go_enter Tryd.func113, Tryd.ntmps113
    go_wp2_with fail
    go_region_held3 (fun X => S2r X R s a) (first | (with_reducible assumption) | exact hs0 | exact hsd | exact y1) (first | (go_at_fn fn; refine CF.out.mono ?_; rintro e w1 ⟨rfl, b1⟩; have y1 : S2r w1 R s a := s2r_blw hsd hl b1) | (fail))
    all_goals
      have hB1 := Lib.hid (HB.out.of_below (bd.trans b1))
      have hm1 := Lib.hid (Mod.of_below (S := (· = R)) (bd.trans b1))
      have g2 := (b1.cell (p := ⟨R, 2, none⟩) hl).trans h2d
      have k1 := hB1.out.frozen 1
      have k2 := hB1.out.frozen 2
      obtain ⟨y10, y11⟩ := y1
      clear b1
      go_wp2
      go_ret
      exact ⟨rfl, (hB1.out.set 2 _), hm1.out.setCell (.inl rfl) _⟩
set_option maxHeartbeats 4000000 in
theorem string_bad (fn : Nat) (cp : Array Value) (R : Nat) (s : ByteArray) (u : ByteArray) (a tu c : Int) (w : World) (hR : Blk w R (rdA s a true) 172)
    (he : ∀ args w, (callFunc fn args).run Tryd.prog w = .ok (.enter fn args) w)
    (hf : ∀ W, Below w.heap.size w W → Calls Tryd.prog fn (#[.string s, .int .i64 a] ++ cp) W fun e w' => e = .returned (.tuple #[.string u, .int .i64 tu, .int .u8 c]) ∧ Below W.heap.size W w') :
    Calls Tryd.prog 113 #[.pointer (some ⟨R, 0, none⟩), .func (.func fn) #[] cp] w fun e w' => e = .returned (.string noS) ∧ Blk w' R (rdA s a true) 172 ∧ Mod (· = R) w w' := by
  have h0 := hR.cell 0
  have h1 := hR.cell 1
  have h2 := hR.cell 2
  have f1 := hR.frozen 1
  have f2 := hR.frozen 2
  have hl := hR.lt
  simp only [rdA, List.getElem?_toArray, List.getElem?_cons_zero, List.getElem?_cons_succ] at h0 h1 h2
  have hs0 : S2r w R s a := ⟨h0, h1⟩
  have HB := Lib.hid hR
  have bd : Below w.heap.size w w.drew := (Below.refl _ _).drew
  have hsd : S2r w.drew R s a := hs0
  have h2d : w.drew.cell? ⟨R, 2, none⟩ = some (.bool true) := h2
  have CF := Lib.hid (hf w.drew bd)
  clear hf hR h0 h1
  go_enter Tryd.func113, Tryd.ntmps113
  go_wp2_with fail
  go_region_held3 (fun X => S2r X R s a) (first | (with_reducible assumption) | exact hs0 | exact hsd | exact y1) (first | (go_at_fn fn; refine CF.out.mono ?_; rintro e w1 ⟨rfl, b1⟩; have y1 : S2r w1 R s a := s2r_blw hsd hl b1) | (fail))
  all_goals
    have hB1 := Lib.hid (HB.out.of_below (bd.trans b1))
    have hm1 := Lib.hid (Mod.of_below (S := (· = R)) (bd.trans b1))
    have g2 := (b1.cell (p := ⟨R, 2, none⟩) hl).trans h2d
    have k1 := hB1.out.frozen 1
    have k2 := hB1.out.frozen 2
    obtain ⟨y10, y11⟩ := y1
    clear b1
    go_wp2
    go_ret
    exact ⟨rfl, (hB1.out.set 2 _), hm1.out.setCell (.inl rfl) _⟩
end Go.Proofs.YtedapgeabpadaaaDoor

/- Plain facts: a number is read back from its bytes; bytes that are read are just its bytes. -/
namespace Go.Proofs.YtedapgeabpadaaaDoor.Pl
open Go.PlainAid (bt bt_nonneg bt_le get_bt bt_end)

theorem bt_list (l : List UInt8) (k : Nat) (h : k < l.length) : bt ⟨l.toArray⟩ k = ((l[k]).toNat : Int) := by
  unfold bt
  have h' : k < (⟨l.toArray⟩ : ByteArray).size := by simpa [ByteArray.size] using h
  rw [dif_pos h']
  rfl
/-- The bytes of n, written at place a with r of them left, are read as n on top of what has been gathered. -/
theorem gi_vb (s : ByteArray) : ∀ (r f k a : Nat) (n m : Int), 1 ≤ r → r ≤ f → 0 ≤ n → n < 128 ^ r → (1 < r ∨ 0 < k → 128 ^ (r - 1) ≤ n) →
    (∀ j (h : j < (vb n r).length), bt s (a + j) = (((vb n r)[j]).toNat : Int)) → a + r ≤ s.size →
    gi s f k m a = (m + n * 128 ^ k, ((a + r : Nat) : Int), 0) := by
  intro r
  induction r with
  | zero => intro f k a n m h; omega
  | succ r ih =>
    intro f k a n m _ hf h0 h1 hmin hb ha
    obtain ⟨f, rfl⟩ : ∃ g, f = g + 1 := ⟨f - 1, by omega⟩
    cases r with
    | zero =>
      have hb0 := hb 0 (by simp [vb])
      simp only [vb, List.getElem_cons_zero, by8_toNat, Nat.add_zero] at hb0
      simp at h1
      rw [show n % 128 % 256 = n from by omega] at hb0
      rw [gi_last (by omega) (by omega) (by rw [hb0]; rintro ⟨h2, h3⟩; have := hmin (.inr h2); simp at this; omega), hb0]
      simp
    | succ r =>
      have hb0 := hb 0 (by simp [vb])
      simp only [vb, List.getElem_cons_zero, by8_toNat, Nat.add_zero] at hb0
      rw [show (n % 128 + 128) % 256 = n % 128 + 128 from by omega] at hb0
      rw [gi_more (by omega) (by omega), hb0]
      have hp : (128 : Int) ^ (r + 1 + 1) = 128 ^ (r + 1) * 128 := Int.pow_succ _ _
      have hp2 : (128 : Int) ^ (r + 1) = 128 ^ r * 128 := Int.pow_succ _ _
      have h128 : (128 : Int) ^ (r + 1) ≤ n := hmin (.inl (by omega))
      rw [ih f (k + 1) (a + 1) (n / 128) _ (by omega) (by omega) (by omega) (by rw [hp] at h1; omega) (fun _ => by simp only [Nat.add_sub_cancel]; rw [hp2] at h128; omega) ?_ (by omega)]
      · have hk : (128 : Int) ^ (k + 1) = 128 ^ k * 128 := Int.pow_succ _ _
        congr 1
        · rw [hk, show (n % 128 + 128) % 128 = n % 128 from by omega]
          have : n % 128 + 128 * (n / 128) = n := by omega
          calc m + n % 128 * 128 ^ k + n / 128 * (128 ^ k * 128) = m + (n % 128 + 128 * (n / 128)) * 128 ^ k := by rw [Int.add_mul]; simp only [Int.mul_comm, Int.mul_left_comm, Int.mul_assoc, Int.add_assoc]
            _ = m + n * 128 ^ k := by rw [this]
        · congr 1
          omega
      · intro j hj
        have := hb (j + 1) (by simp only [vb, List.length_cons]; omega)
        simp only [vb, List.getElem_cons_succ] at this
        rw [show a + 1 + j = a + (j + 1) from by omega]
        exact this

theorem by8_bt (s : ByteArray) {a : Nat} (h : a < s.size) : by8 (bt s a) = s[a] := by
  have e := get_bt s a h
  rw [← e]
  unfold by8
  have := (s[a]).toNat_lt
  apply UInt8.toNat.inj
  rw [UInt8.toNat_ofNat']
  omega

/-- What is read stands there in its bytes. -/
theorem gi_back (s : ByteArray) : ∀ (f k a : Nat) (m v e : Int), gi s f k m a = (v, e, 0) →
    ∃ (r : Nat) (n : Int), 1 ≤ r ∧ r ≤ f ∧ v = m + n * 128 ^ k ∧ 0 ≤ n ∧ n < 128 ^ r ∧ (1 < r ∨ 0 < k → 128 ^ (r - 1) ≤ n) ∧ e = ((a + r : Nat) : Int) ∧ a + r ≤ s.size ∧
      ∀ j (h : j < (vb n r).length) (h2 : a + j < s.size), (vb n r)[j] = s[a + j] := by
  intro f
  induction f with
  | zero => intro k a m v e h; rw [gi_zero] at h; injection h with _ h; injection h with _ h; exact absurd h (by decide)
  | succ f ih =>
    intro k a m v e h
    have hb0 := bt_nonneg s a
    have hb1 := bt_le s a
    by_cases he : s.size ≤ a
    · rw [gi_end he] at h; injection h with _ h; injection h with _ h; exact absurd h (by decide)
    · by_cases hl : bt s a < 128
      · by_cases hk : 0 < k ∧ bt s a = 0
        · rw [gi_long he hl hk] at h; injection h with _ h; injection h with _ h; exact absurd h (by decide)
        · rw [gi_last he hl hk] at h
          injection h with h1 h
          injection h with h2 _
          refine ⟨1, bt s a, by omega, by omega, h1.symm, hb0, by simpa using hl, fun hc => ?_, by omega, by omega, ?_⟩
          · simp
            rcases hc with hc | hc
            · omega
            · have : bt s a ≠ 0 := fun h0 => hk ⟨hc, h0⟩
              omega
          · intro j hj h2
            obtain rfl : j = 0 := by simp [vb] at hj; omega
            simp only [vb, List.getElem_cons_zero, Nat.add_zero]
            rw [show bt s a % 128 = bt s a from by omega]
            exact by8_bt s (by omega)
      · rw [gi_more he (by omega)] at h
        obtain ⟨r, n, hr1, hrf, hv, hn0, hn1, hmin, hee, hsz, hby⟩ := ih (k + 1) (a + 1) _ v e h
        obtain ⟨q, rfl⟩ : ∃ q, r = q + 1 := ⟨r - 1, by omega⟩
        have hq : (128 : Int) ^ q ≤ n := hmin (.inr (by omega))
        have hp : (128 : Int) ^ (q + 1) = 128 ^ q * 128 := Int.pow_succ _ _
        have hp2 : (128 : Int) ^ (q + 1 + 1) = 128 ^ (q + 1) * 128 := Int.pow_succ _ _
        have hk : (128 : Int) ^ (k + 1) = 128 ^ k * 128 := Int.pow_succ _ _
        have hdiv : (bt s a % 128 + 128 * n) / 128 = n := by omega
        have hmod : (bt s a % 128 + 128 * n) % 128 = bt s a % 128 := by omega
        refine ⟨q + 1 + 1, bt s a % 128 + 128 * n, by omega, by omega, ?_, by omega, by rw [hp2]; omega, fun _ => by simp only [Nat.add_sub_cancel]; rw [hp]; omega, by omega, by omega, ?_⟩
        · rw [hv, hk, Int.add_mul]
          simp only [Int.mul_comm, Int.mul_assoc, Int.add_assoc]
        · intro j hj h2
          cases j with
          | zero =>
            simp only [vb, List.getElem_cons_zero, Nat.add_zero]
            rw [hmod, show bt s a % 128 + 128 = bt s a from by omega]
            exact by8_bt s (by omega)
          | succ j =>
            simp only [vb, List.getElem_cons_succ]
            have hl2 : j < (vb n (q + 1)).length := by rw [vb_length]; rw [vb_length] at hj; omega
            have h3 := hby j hl2 (by omega)
            have e1 : (vb ((bt s a % 128 + 128 * n) / 128) (q + 1)) = vb n (q + 1) := by rw [hdiv]
            have e2 : ∀ (l l' : List UInt8) (hl : j < l.length) (hll : l = l'), l[j] = l'[j]'(hll ▸ hl) := by intro l l' hl hll; subst hll; rfl
            rw [e2 _ _ _ e1, h3]
            congr 1
            omega

/-- A number is read back from its bytes. -/
theorem get_enc {n : Int} (h0 : 0 ≤ n) (h1 : n ≤ 268435455) : getV ⟨(enc n).toArray⟩ 0 = (n, sz n, 0) := by
  have hp := sz_pos h0 h1
  have hl : (⟨(enc n).toArray⟩ : ByteArray).size = (sz n).toNat := by simp [ByteArray.size, enc_length]
  obtain ⟨r, hr⟩ : ∃ r : Nat, sz n = r + 1 := ⟨(sz n - 1).toNat, by omega⟩
  have hr0 := hr
  have hlt : n < 128 ^ (r + 1) ∧ (0 < r → 128 ^ r ≤ n) := by
    obtain rfl | rfl | rfl | rfl : r = 0 ∨ r = 1 ∨ r = 2 ∨ r = 3 := by omega
    all_goals
      unfold sz at hr
      rw [if_neg (by omega)] at hr
      refine ⟨?_, ?_⟩
      all_goals simp
      all_goals (repeat' split at hr)
      all_goals omega
  have he : enc n = vb n (r + 1) := by unfold enc; rw [hr]; rfl
  have := gi_vb ⟨(enc n).toArray⟩ (r + 1) 4 0 0 n 0 (by omega) (by omega) h0 hlt.1 (fun hc => by simp only [Nat.add_sub_cancel]; exact hlt.2 (by omega)) (fun j hj => by
    rw [Nat.zero_add]
    have hj2 : j < (enc n).length := by rw [he]; exact hj
    rw [bt_list _ _ hj2]
    congr 2
    have e2 : ∀ (l l' : List UInt8) (hl : j < l.length) (hll : l = l'), l[j] = l'[j]'(hll ▸ hl) := by intro l l' hl hll; subst hll; rfl
    exact e2 _ _ _ he) (by rw [hl, hr]; omega)
  rw [show (0 : Int) = ((0 : Nat) : Int) from rfl, getV_ok (by omega), this, hr]
  simp

/-- What is read stands there in its bytes. -/
theorem enc_get {s : ByteArray} {v e : Int} (h : getV s 0 = (v, e, 0)) : 0 ≤ v ∧ v ≤ 268435455 ∧ ∃ k : Nat, e = k ∧ k ≤ s.size ∧ s.extract 0 k = ⟨(enc v).toArray⟩ := by
  rw [show (0 : Int) = ((0 : Nat) : Int) from rfl, getV_ok (by omega)] at h
  obtain ⟨r, n, hr1, hr4, hv, hn0, hn1, hmin, he, hsz, hby⟩ := gi_back s 4 0 0 0 v e h
  obtain rfl : v = n := by rw [hv]; simp
  have hmax : v ≤ 268435455 := by
    obtain rfl | rfl | rfl | rfl : r = 1 ∨ r = 2 ∨ r = 3 ∨ r = 4 := by omega
    all_goals (simp at hn1; omega)
  have hz : sz v = r := by
    have := sz_exact (n := v) (k := r - 1) hn0 (by rw [show r - 1 + 1 = r from by omega]; exact hn1) (by by_cases h1 : r = 1; exact .inl (by omega); exact .inr (hmin (.inl (by omega)))) (by omega)
    omega
  refine ⟨hn0, hmax, r, by omega, by omega, ?_⟩
  have hen : enc v = vb v r := by unfold enc; rw [hz]; rfl
  rw [hen]
  apply ByteArray.ext
  apply Array.ext
  · simp [vb_length]; omega
  · intro i h1 h2
    have h3 : i < (vb v r).length := by simpa using h2
    have h4 : i < r := by rw [vb_length] at h3; exact h3
    have := hby i h3 (by omega)
    simp only [Nat.zero_add] at this
    simp [this]
    rfl
end Go.Proofs.YtedapgeabpadaaaDoor.Pl

/- Where a read ends: plain. -/
namespace Go.Proofs.YtedapgeabpadaaaDoor
set_option linter.unusedVariables false
open Go.RowKit Pl

theorem getV_to {s : ByteArray} {a n tu : Int} (h : getV s a = (n, tu, 0)) : ∃ i j : Nat, a = i ∧ tu = j ∧ i < j ∧ j ≤ s.size ∧ j ≤ i + 4 ∧ 0 ≤ n ∧ n ≤ 268435455 := by
  by_cases hb : a < 0 ∨ (s.size : Int) < a
  · rw [getV_bad hb] at h; injection h with _ h; injection h with _ h; exact absurd h (by decide)
  · obtain ⟨i, rfl⟩ := Int.eq_ofNat_of_zero_le (show 0 ≤ a by omega)
    rw [getV_ok (by omega)] at h
    obtain ⟨r, v, hr1, hr4, hv, hn0, hn1, hmin, he, hsz, hby⟩ := gi_back s 4 0 i 0 n tu h
    obtain rfl : n = v := by rw [hv]; simp
    refine ⟨i, i + r, rfl, he, by omega, hsz, by omega, hn0, ?_⟩
    obtain rfl | rfl | rfl | rfl : r = 1 ∨ r = 2 ∨ r = 3 ∨ r = 4 := by omega
    all_goals (simp at hn1; omega)
theorem getF_to {s : ByteArray} {a d n tu : Int} (h : getF s a d = (n, tu, 0)) : ∃ i k : Nat, a = i ∧ d = k ∧ tu = (i + k : Nat) ∧ (k = 1 ∨ k = 2 ∨ k = 4) ∧ i + k ≤ s.size ∧ n = gv s i k := by
  by_cases hb : ¬ Wide d ∨ a < 0 ∨ (s.size : Int) < a
  · rw [getF_bad hb] at h; injection h with _ h; injection h with _ h; exact absurd h (by decide)
  · by_cases h2 : (s.size : Int) - a < d
    · rw [getF_none hb h2] at h; injection h with _ h; injection h with _ h; exact absurd h (by decide)
    · have hw : Wide d := by
        by_cases c : Wide d
        · exact c
        · exact absurd (.inl c) hb
      have ha : 0 ≤ a := by
        by_cases c : a < 0
        · exact absurd (.inr (.inl c)) hb
        · omega
      obtain ⟨i, rfl⟩ := Int.eq_ofNat_of_zero_le ha
      have hd : 0 ≤ d := by unfold Wide at hw; omega
      obtain ⟨k, rfl⟩ := Int.eq_ofNat_of_zero_le hd
      rw [getF_ok hw (by omega)] at h
      injection h with h1 h
      injection h with h3 _
      exact ⟨i, k, rfl, rfl, by omega, by unfold Wide at hw; omega, by omega, h1.symm⟩
theorem getD_to {s t : ByteArray} {a tu : Int} (h : getD s a = (t, tu, 0)) : ∃ i m : Nat, a = i ∧ tu = (i + 2 + m : Nat) ∧ i + 2 + m ≤ s.size ∧ m < 65536 ∧ gv s i 2 = m ∧ t = s.extract (i + 2) (i + 2 + m) := by
  rcases getF_two s a with e | e | ⟨i, m, rfl, e, hm, hi⟩
  · rw [getD_code e (by decide)] at h; injection h with _ h; injection h with _ h; exact absurd h (by decide)
  · rw [getD_code e (by decide)] at h; injection h with _ h; injection h with _ h; exact absurd h (by decide)
  · by_cases hn : (s.size : Int) - (i + 2 : Nat) < m
    · rw [getD_none e hn] at h; injection h with _ h; injection h with _ h; exact absurd h (by decide)
    · rw [getD_ok e (by omega)] at h
      injection h with h1 h
      injection h with h2 _
      obtain ⟨i', k, hi', hk, _, _, _, hg⟩ := getF_to e
      obtain rfl : i = i' := by omega
      obtain rfl : k = 2 := by omega
      exact ⟨i, m, rfl, by omega, by omega, hm, hg.symm, h1.symm⟩
theorem tget_getD {s t : ByteArray} {a tu : Int} (h : tget s a = (t, tu, 0)) : getD s a = (t, tu, 0) ∧ (flt t t.size 0).2 = false := by
  obtain ⟨⟨u, f, c⟩, hg⟩ : ∃ g, getD s a = g := ⟨_, rfl⟩
  by_cases hc : c = 0
  · subst hc
    by_cases hb : (flt u u.size 0).2 = true
    · rw [tget_bad hg hb] at h; injection h with _ h; injection h with _ h; exact absurd h (by decide)
    · have hb' : (flt u u.size 0).2 = false := by simpa using hb
      rw [tget_ok hg hb'] at h
      injection h with h1 h
      injection h with h2 _
      subst h1 h2
      exact ⟨hg, hb'⟩
  · rw [tget_code hg hc] at h; injection h with _ h; injection h with _ h; exact absurd h hc
theorem tget_to {s t : ByteArray} {a tu : Int} (h : tget s a = (t, tu, 0)) (hs : s.size ≤ 140737488351232) : -9223372036854775808 ≤ tu ∧ tu ≤ 9223372036854775807 := by
  obtain ⟨i, m, _, e, h1, _⟩ := getD_to (tget_getD h).1
  omega
theorem rdv_to {s : ByteArray} {id a tu : Int} {p : Pp} (h : rdv s id a = some (p, tu)) : ∃ i j : Nat, a = i ∧ tu = j ∧ i < j ∧ j ≤ s.size ∧ p.id = id := by
  unfold rdv at h
  split at h
  · split at h
    · rename_i hc
      obtain ⟨⟨n, f, c⟩, hg⟩ : ∃ g, getV s a = g := ⟨_, rfl⟩
      rw [hg] at h hc
      obtain rfl : c = 0 := hc
      injection h with h; injection h with h1 h2
      obtain ⟨i, j, e1, e2, e3, e4, _⟩ := getV_to hg
      exact ⟨i, j, e1, h2.symm.trans e2, e3, e4, by rw [← h1]⟩
    · cases h
  · split at h
    · split at h
      · rename_i hc
        obtain ⟨⟨n, f, c⟩, hg⟩ : ∃ g, getD s a = g := ⟨_, rfl⟩
        rw [hg] at h hc
        obtain rfl : c = 0 := hc
        injection h with h; injection h with h1 h2
        obtain ⟨i, m, e1, e2, e3, _⟩ := getD_to hg
        exact ⟨i, i + 2 + m, e1, h2.symm.trans e2, by omega, e3, by rw [← h1]⟩
      · cases h
    · split at h
      · split at h
        · rename_i hc
          obtain ⟨⟨n, f, c⟩, hg⟩ : ∃ g, tget s a = g := ⟨_, rfl⟩
          rw [hg] at h hc
          obtain rfl : c = 0 := hc
          injection h with h; injection h with h1 h2
          obtain ⟨i, m, e1, e2, e3, _⟩ := getD_to (tget_getD hg).1
          exact ⟨i, i + 2 + m, e1, h2.symm.trans e2, by omega, e3, by rw [← h1]⟩
        · cases h
      · split at h
        · split at h
          · split at h
            · rename_i hc hc2
              obtain ⟨⟨n, f, c⟩, hg⟩ : ∃ g, tget s a = g := ⟨_, rfl⟩
              rw [hg] at h hc hc2
              obtain rfl : c = 0 := hc
              obtain ⟨⟨n2, f2, c2⟩, hg2⟩ : ∃ g, tget s f = g := ⟨_, rfl⟩
              have hg2' : tget s (n, f, (0 : Int)).2.1 = (n2, f2, c2) := hg2
              rw [hg2'] at h hc2
              obtain rfl : c2 = 0 := hc2
              injection h with h; injection h with h1 h2
              obtain ⟨i, m, e1, e2, e3, _⟩ := getD_to (tget_getD hg).1
              obtain ⟨i', m', e1', e2', e3', _⟩ := getD_to (tget_getD hg2).1
              exact ⟨i, i' + 2 + m', e1, h2.symm.trans e2', by omega, e3', by rw [← h1]⟩
            · cases h
          · cases h
        · split at h
          · rename_i hc
            obtain ⟨⟨n, f, c⟩, hg⟩ : ∃ g, getF s a (wid (kindOf id)) = g := ⟨_, rfl⟩
            rw [hg] at h hc
            obtain rfl : c = 0 := hc
            injection h with h; injection h with h1 h2
            obtain ⟨i, k, e1, e2, e3, e4, e5, _⟩ := getF_to hg
            exact ⟨i, i + k, e1, h2.symm.trans e3, by omega, e5, by rw [← h1]⟩
          · cases h
end Go.Proofs.YtedapgeabpadaaaDoor
