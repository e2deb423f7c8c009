/- StreamPieces (for inputs of bulk at most 1048576): the law's walk. -/
import Derived.Test.YtedapgeabpadaaaDoorH6P20
import Derived.Lib.MinMax
set_option linter.unusedVariables false
namespace Go.Proofs.YtedapgeabpadaaaDoor
open Go.RowKit Pl Go.Shelf Go.PlainAid

theorem catB_snoc (x : ByteArray) : ∀ ps : List ByteArray, catB (ps ++ [x]) = catB ps ++ x := by
  intro ps
  induction ps with
  | nil => rw [List.nil_append, show catB [x] = x ++ (⟨#[]⟩ : ByteArray) from rfl, app_nil, show catB [] = (⟨#[]⟩ : ByteArray) from rfl, nil_app]
  | cons y r ih => rw [List.cons_append, show catB (y :: (r ++ [x])) = y ++ catB (r ++ [x]) from rfl, ih, ← app_assoc]; rfl
theorem cut_two {x : ByteArray} {k : Nat} (h : k ≤ x.size) : x.extract 0 k ++ x.extract k x.size = x := by
  apply ByteArray.ext
  apply Array.toList_inj.1
  rw [ByteArray.data_append, ByteArray.data_extract, ByteArray.data_extract]
  simp only [Array.toList_append, Array.toList_extract, List.extract_eq_take_drop, List.drop_zero, Nat.sub_zero]
  have hx : x.size = x.data.toList.length := rfl
  rw [hx, List.take_of_length_le (l := List.drop k x.data.toList) (by rw [List.length_drop]; exact Nat.le_refl _)]
  exact List.take_append_drop _ _
theorem cat_cut {ps : List ByteArray} {x s : ByteArray} {k : Nat} (h : catB (ps ++ [x]) = s) (hk : k ≤ x.size) : catB ((ps ++ [x.extract 0 k]) ++ [x.extract k x.size]) = s := by
  rw [catB_snoc, catB_snoc, app_assoc, cut_two hk, ← catB_snoc]
  exact h
theorem Sl.vrow {w : World} {B n cap : Nat} {e : TypeId} {A : Option Addr} {xs : List Value} (s : Sl B w e 1 (.slice A n cap) n xs) : VRow w A xs := by
  intro hp
  have := s.1
  obtain ⟨g, o, cap', hv, _, h1, _, _, h2⟩ := s.at (by omega)
  injection hv with e1 _ _
  exact ⟨g, o, e1, h1, fun i x hi => h2 i x hi⟩
set_option maxRecDepth 100000 in
set_option maxHeartbeats 8000000 in
theorem streamPieces_walk (s : ByteArray) (hs : s.size ≤ 1048576) (v : Value) (cs : List Int) (most : Int) (hn : (Lit.int .i64 most).wf = true) (w : World) (h : SInts w v cs) (hu : bulkI cs ≤ 1048576) (hT : Tabs w) :
    Calls Tryd.prog 5 #[.string s, v, .int .i64 most] w fun e w' => e = .returned (.bool true) ∧ Below w.heap.size w w' := by
  obtain ⟨A, cap, rfl, hc1, hc2, hb, hrow⟩ := h
  obtain ⟨h0, h1⟩ := i64_bd hn
  obtain ⟨m, hm⟩ : ∃ m : Nat, min cs.length 100 = m := ⟨_, rfl⟩
  have hm' : min (cs.length : Int) 100 = (m : Int) := by omega
  have hmn : m ≤ cs.length := by omega
  have hm100 : m ≤ 100 := by omega
  have hmc : (m : Int) ≤ (cap : Int) := by omega
  have hm0 : (0 : Int) ≤ (m : Int) := by omega
  have hmax : cap ≤ 9223372036854775807 := hc2
  have HR := Lib.hid hrow
  have HBD := Lib.hid hb
  have HT := Lib.hid hT
  have HSZ := Lib.hid hs
  clear hm hrow hb hT hn hu hs
  go_enter Tryd.func5, Tryd.ntmps5
  go_wp2_with fail
  go_loopw [7, 8, 24] (fun pv rv iv wr => ∃ (i : Nat) (ps : List ByteArray) (rest : ByteArray), iv = .int .i64 i ∧ i ≤ m ∧ ps.length = i ∧ rv = .string rest ∧ Hid (Sl w.heap.size wr 9 1 pv ps.length (ps.map Value.string)) ∧ Hid (catB (ps ++ [rest]) = s) ∧ Hid (Below w.heap.size w wr)) (fun _ _ iv _ => ((m : Int) - intOf iv).toNat)
  case atStart => exact ⟨0, [], s, rfl, Nat.zero_le _, rfl, rfl, Lib.hid (Sl.nil _ _ _ _), Lib.hid (app_nil s), Lib.hid (Below.refl _ _)⟩
  case round =>
    obtain ⟨i, ps, rest, rfl, hi, hpl, rfl, hS, hC, hB⟩ := hrel
    by_cases him : i < m
    · obtain ⟨x, hx⟩ : ∃ x, cs[i]? = some x := ⟨_, List.getElem?_eq_getElem (by omega)⟩
      obtain ⟨b, o, rfl, hlt, hcl⟩ := HR.out (by rw [List.length_map]; omega)
      have hcell : wr.cell? ⟨b, o + i, none⟩ = some (.int .i64 x) := (hB.out.cell (p := ⟨b, o + i, none⟩) hlt).trans (hcl i _ (by rw [List.getElem?_map, hx]; rfl))
      have hxb := HBD.out x (List.mem_of_getElem? hx)
      unfold i64B at hxb
      obtain ⟨d, hd⟩ : ∃ d : Nat, max (0 : Int) x = (d : Int) := ⟨(max 0 x).toNat, by omega⟩
      obtain ⟨e8, he8⟩ : ∃ e8 : Nat, d % 8 = e8 := ⟨_, rfl⟩
      have he8' : (d : Int) % 8 = (e8 : Int) := by omega
      obtain ⟨k, hk⟩ : ∃ k : Nat, min e8 rest.size = k := ⟨_, rfl⟩
      have hk' : min (e8 : Int) (rest.size : Int) = (k : Int) := by omega
      have hkr : k ≤ rest.size := by omega
      have hkr' : (k : Int) ≤ (rest.size : Int) := by omega
      have hC2 := Lib.hid (cat_cut hC.out hkr)
      have iI : (i : Int) < (m : Int) := by omega
      have hdb : (d : Int) ≤ 9223372036854775807 := by omega
      obtain ⟨U, hU⟩ : ∃ U, wr.alloc (.cells #[.string (rest.extract 0 k)] 9) = U := ⟨_, rfl⟩
      have hub : Blk U wr.heap.size #[.string (rest.extract 0 k)] 9 := by rw [← hU]; exact Blk.new _ _ _
      have bu : Below wr.heap.size wr U := by rw [← hU]; exact (Below.refl _ _).alloc (Nat.le_refl _) _
      have HUB := Lib.hid hub
      have HSU := Lib.hid (hS.out.below bu)
      have HBU := Lib.hid (hB.out.trans (bu.mono hB.out.size))
      have hBu : w.heap.size ≤ U.heap.size := HBU.out.size
      have hln : ps.length ≤ 1048576 := by omega
      clear hx hlt hcl he8 hk hub bu hS hB hC him hxb
      go_wp2_with (first | (refine wpList_sstr (.tmp 34) (.tmp 38) w.heap.size _ ps (rest.extract 0 k) wr.heap.size rfl rfl rfl rfl HSU.out HUB.out hBu hln ?_; intro pv2 wf hpf hgf hof hor) | (fail))
      have hbf : Below w.heap.size w wf := HBU.out.grown hgf hBu (fun k hk => hof k hk)
      have HPF := Lib.hid hpf
      have HBF := Lib.hid hbf
      clear hbf hpf hgf hof hor HUB HSU HBU hBu hln hU
      go_wp2_with fail
      go_roundw
      case rel => exact ⟨i + 1, ps ++ [rest.extract 0 k], _, by go_num, by omega, by rw [List.length_append, hpl]; rfl, rfl, HPF, hC2, HBF⟩
      case measure => simp [intOf]; omega
    · obtain rfl : i = m := by omega
      have hnn : ¬ ((i : Int) < (i : Int)) := by omega
      obtain ⟨U, hU⟩ : ∃ U, wr.alloc (.cells #[.string rest] 9) = U := ⟨_, rfl⟩
      have hub : Blk U wr.heap.size #[.string rest] 9 := by rw [← hU]; exact Blk.new _ _ _
      have bu : Below wr.heap.size wr U := by rw [← hU]; exact (Below.refl _ _).alloc (Nat.le_refl _) _
      have HUB := Lib.hid hub
      have HSU := Lib.hid (hS.out.below bu)
      have HBU := Lib.hid (hB.out.trans (bu.mono hB.out.size))
      have hBu : w.heap.size ≤ U.heap.size := HBU.out.size
      have hln : ps.length ≤ 1048576 := by omega
      clear hub bu hS hB him
      go_wp2_with (first | (refine wpList_sstr (.tmp 44) (.tmp 46) w.heap.size _ ps rest wr.heap.size rfl rfl rfl rfl HSU.out HUB.out hBu hln ?_; intro pv2 wf hpf hgf hof hor) | (fail))
      have hbf : Below w.heap.size w wf := HBU.out.grown hgf hBu (fun k hk => hof k hk)
      obtain ⟨Q, hQ⟩ : ∃ Q, ps ++ [rest] = Q := ⟨_, rfl⟩
      rw [hQ] at hpf hC
      have hQl : Q.length ≤ 101 := by rw [← hQ, List.length_append]; show ps.length + 1 ≤ 101; omega
      obtain ⟨A2, cap2, rfl, hc22, hcm22, -⟩ := hpf.form
      obtain ⟨U2, hU2⟩ : ∃ U2, wf.alloc (.cells #[.string s] 9) = U2 := ⟨_, rfl⟩
      have hub2 : Blk U2 wf.heap.size #[.string s] 9 := by rw [← hU2]; exact Blk.new _ _ _
      have bu2 : Below wf.heap.size wf U2 := by rw [← hU2]; exact (Below.refl _ _).alloc (Nat.le_refl _) _
      have hBU2 := hbf.trans (bu2.mono hbf.size)
      have HTU := Lib.hid (HT.out.below hBU2)
      have hv1 : VRow U2 (some ⟨wf.heap.size, 0, none⟩) ([s].map Value.string) := fun _ => ⟨wf.heap.size, 0, rfl, hub2.lt, fun j u hu => by
        cases j with
        | zero =>
          obtain rfl : Value.string s = u := by simpa using hu
          exact hub2.cell 0
        | succ j => simp at hu⟩
      have hz1 : (catB [s]).size ≤ 1048576 := by rw [show catB [s] = s ++ (⟨#[]⟩ : ByteArray) from rfl, app_nil]; exact HSZ.out
      have ct : Calls Tryd.prog 13 #[.slice (some ⟨wf.heap.size, 0, none⟩) 1 1, .int .i64 most] U2 _ := stold_any (some ⟨wf.heap.size, 0, none⟩) 1 [s] most U2 hv1 (Nat.le_refl _) (by show 1 ≤ 1048576; omega) h0 h1 hz1 HTU.out
      have CT := Lib.hid ct
      clear ct
      have HP2 := Lib.hid (hpf.below bu2)
      have HB2 := Lib.hid hBU2
      have HCQ := Lib.hid hC.out
      have HSAME := Lib.hid (told_same most Q s hC.out)
      clear hub2 bu2 hBU2 hv1 hz1 hbf hpf hgf hof hor HUB HSU HBU hBu hln hC hU hQ
      go_wp2_with fail
      try rw [hU2]
      refine CT.out.mono ?_
      rintro e w5 ⟨va, rfl, sa, b5⟩
      rw [← HSAME.out] at sa ⊢
      have HTW := Lib.hid (HTU.out.below b5)
      have CT2 := Lib.hid (stold_any A2 cap2 Q most w5 (HP2.out.below b5).vrow hc22 (by omega) h0 h1 (by rw [HCQ.out]; exact HSZ.out) HTW.out)
      obtain ⟨T, hTT⟩ : ∃ T, (toldP most ⟨#[]⟩ Q).1 = T := ⟨_, rfl⟩
      obtain ⟨c, hcc⟩ : ∃ c, (toldP most ⟨#[]⟩ Q).2 = c := ⟨_, rfl⟩
      rw [hTT] at sa CT2
      rw [hcc] at CT2 ⊢
      have HB5 := Lib.hid (HB2.out.trans (b5.mono HB2.out.size))
      obtain ⟨A3, cap3, rfl, ht3, hm3, -⟩ := sa.form
      have hTm : (T.length : Int) ≤ 9223372036854775807 := by have : cap3 ≤ 9223372036854775807 := hm3; omega
      clear ht3 hm3
      have SA := Lib.hid sa
      clear sa b5 HSAME HCQ CT hTT hcc
      go_wp2_with fail
      refine CT2.out.mono ?_
      rintro e w6 ⟨vb, rfl, sb, b6⟩
      obtain ⟨A4, cap4, rfl, -, -, -⟩ := sb.form
      have SB := Lib.hid sb
      have SA6 := Lib.hid (SA.out.below b6)
      have HB6 := Lib.hid (HB5.out.trans (b6.mono HB5.out.size))
      have HT6 := Lib.hid (HTW.out.below b6)
      clear sb b6 SA CT2
      go_wp2_with fail
      refine (swakes_any _ HT6.out).mono ?_
      rintro e w7 ⟨rfl, b7⟩
      have SB7 := Lib.hid (SB.out.below b7)
      have SA7 := Lib.hid (SA6.out.below b7)
      have HB7 := Lib.hid (HB6.out.trans (b7.mono HB6.out.size))
      clear b7 SB SA6
      go_wp2_with fail
      go_loopw [77] (fun jv wq => ∃ (j : Nat), jv = .int .i64 j ∧ j ≤ T.length ∧ Hid (VRow wq A3 (T.map Value.string)) ∧ Hid (VRow wq A4 (T.map Value.string)) ∧ Hid (Below w.heap.size w wq)) (fun jv _ => ((T.length : Int) - intOf jv).toNat)
      case atStart => exact ⟨0, rfl, Nat.zero_le _, Lib.hid SA7.out.vrow, Lib.hid SB7.out.vrow, HB7⟩
      case round =>
        obtain ⟨j, rfl, hj, hA, hBb, hB⟩ := hrel
        by_cases hjl : j < T.length
        · obtain ⟨t, ht⟩ : ∃ t, T[j]? = some t := ⟨_, List.getElem?_eq_getElem hjl⟩
          obtain ⟨g1, o1, rfl, hl1, hcl1⟩ := hA.out (by rw [List.length_map]; omega)
          obtain ⟨g2, o2, rfl, hl2, hcl2⟩ := hBb.out (by rw [List.length_map]; omega)
          have k1 := hcl1 j (.string t) (by rw [List.getElem?_map, ht]; rfl)
          have k2 := hcl2 j (.string t) (by rw [List.getElem?_map, ht]; rfl)
          have f1 : (t.toList == t.toList) = true := by simp
          have jI : (j : Int) < (T.length : Int) := by omega
          have JI : Hid (j < T.length) := Lib.hid hjl
          have HA2 := Lib.hid (hA.out.below (show Below wr.heap.size wr wr.drew from ⟨rfl, rfl, rfl, Nat.le_refl _, fun _ _ => rfl⟩))
          have HA3 := Lib.hid (hBb.out.below (show Below wr.heap.size wr wr.drew from ⟨rfl, rfl, rfl, Nat.le_refl _, fun _ _ => rfl⟩))
          clear ht hcl1 hcl2 hl1 hl2 hjl
          go_wp2_with fail
          go_quiet (fail)
          go_wp2
          go_roundw
          case rel => exact ⟨j + 1, by go_num, by have := JI.out; omega, Lib.hid (hA.out.below ⟨rfl, rfl, rfl, Nat.le_refl _, fun _ _ => rfl⟩), Lib.hid (hBb.out.below ⟨rfl, rfl, rfl, Nat.le_refl _, fun _ _ => rfl⟩), Lib.hid (hB.out.trans ⟨rfl, rfl, rfl, Nat.le_refl _, fun _ _ => rfl⟩)⟩
          case measure => have := JI.out; simp [intOf]; omega
        · obtain rfl : j = T.length := by omega
          have hnn : ¬ ((T.length : Int) < (T.length : Int)) := by omega
          go_wp2
          go_ret
          exact ⟨rfl, hB.out⟩
end Go.Proofs.YtedapgeabpadaaaDoor
