/- StreamStops (for inputs of bulk at most 1048576): the law's walk. -/
import Derived.Test.YtedapgeabpadaaaDoorH6P20
set_option linter.unusedVariables false
namespace Go.Proofs.YtedapgeabpadaaaDoor
open Go.RowKit Pl Go.Shelf Go.PlainAid

set_option maxRecDepth 100000 in
set_option maxHeartbeats 4000000 in
theorem streamStops_walk (v : Value) (ss : List ByteArray) (more : ByteArray) (hmore : more.size ≤ 1048576) (most : Int) (hn : (Lit.int .i64 most).wf = true) (w : World) (h : Strs w v ss) (hu : bulkS ss ≤ 1048576) (hT : Tabs w) :
    Calls Tryd.prog 4 #[v, .string more, .int .i64 most] w fun e w' => e = .returned (.bool true) ∧ Below w.heap.size w w' := by
  obtain ⟨A, cap, rfl, hc1, hc2, h3⟩ := h
  obtain ⟨h0, h1⟩ := i64_bd hn
  have hl := bulk_len ss
  obtain ⟨m, hm⟩ : ∃ m : Nat, min ss.length 40 = m := ⟨_, rfl⟩
  have hm' : min (ss.length : Int) 40 = (m : Int) := by omega
  have hmn : m ≤ ss.length := by omega
  have hmc : (m : Int) ≤ (cap : Int) := by omega
  have hm0 : (0 : Int) ≤ (m : Int) := by omega
  have hmax : cap ≤ 9223372036854775807 := hc2
  have H3 := Lib.hid h3
  have HT := Lib.hid hT
  have HN := Lib.hid (NoTab.new hT (Nat.le_refl w.heap.size))
  have HU := Lib.hid hu
  clear hm h3 hT hn hu hl
  go_enter Tryd.func4, Tryd.ntmps4
  go_wp2_with fail
  refine (snew_any most _).mono ?_
  rintro e w1 ⟨rfl, hb1, b1⟩
  have HB1 := Lib.hid hb1
  have BB1 := Lib.hid b1
  have HT1 := Lib.hid (HT.out.below b1)
  clear hb1 b1
  go_wp2_with fail
  refine (sfeed_nil more _).mono ?_
  rintro e w2 ⟨rfl, b2⟩
  have HB2 := Lib.hid (HB1.out.of_below b2)
  have BB2 := Lib.hid (BB1.out.trans (b2.mono BB1.out.size))
  have HT2 := Lib.hid (HT1.out.below b2)
  clear b2
  go_wp2_with fail
  refine (swakes_any _ HT2.out).mono ?_
  rintro e w3 ⟨rfl, b3⟩
  have HB3 := Lib.hid (HB2.out.of_below b3)
  have BB3 := Lib.hid (BB2.out.trans (b3.mono BB2.out.size))
  have HT3 := Lib.hid (HT2.out.below b3)
  clear b3
  go_wp2_with fail
  refine (sleft_nil _).mono ?_
  rintro e w4 ⟨rfl, b4⟩
  have HB4 := Lib.hid (HB3.out.of_below b4)
  have BB4 := Lib.hid (BB3.out.trans (b4.mono BB3.out.size))
  clear b4
  go_wp2_with fail
  go_loopw [42] (fun iv wr => ∃ (i : Nat) (left : ByteArray), iv = .int .i64 i ∧ i ≤ m ∧ Hid (Blk wr w.heap.size (srA most left 0) 72) ∧ Hid (left.size + bulkS (ss.drop i) ≤ 1048576) ∧ Hid (Below w.heap.size w wr)) (fun iv _ => ((m : Int) - intOf iv).toNat)
  case atStart => exact ⟨0, ⟨#[]⟩, rfl, Nat.zero_le _, HB4, Lib.hid (by rw [List.drop_zero]; have := HU.out; show 0 + _ ≤ _; omega), BB4⟩
  case round =>
    obtain ⟨i, left, rfl, hi, hR, hY, hB⟩ := hrel
    by_cases him : i < m
    · obtain ⟨s, hsi⟩ : ∃ s, ss[i]? = some s := ⟨_, List.getElem?_eq_getElem (by omega)⟩
      obtain ⟨b, o, rfl, hlt, hcl⟩ := H3.out (by omega)
      have hcell : wr.cell? ⟨b, o + i, none⟩ = some (.string s) := (hB.out.cell (p := ⟨b, o + i, none⟩) hlt).trans (hcl i _ hsi)
      have hdr : ss.drop i = s :: ss.drop (i + 1) := by
        rw [List.drop_eq_getElem_cons (by omega)]
        congr 1
        exact (List.getElem?_eq_some_iff.1 hsi).2
      have hsz : left.size + (s.size + 1 + bulkS (ss.drop (i + 1))) ≤ 1048576 := by
        have := hY.out
        rw [hdr, bulkS_cons] at this
        exact this
      have HTr := Lib.hid (HT.out.below hB.out)
      have CF := Lib.hid (sfeed_any w.heap.size most left s wr hR.out h0 h1 (by omega) HTr.out)
      have hroom := feed_room most (left ++ s)
      rw [ByteArray.size_append] at hroom
      have HSZ := Lib.hid hsz
      have HRM := Lib.hid hroom
      have iI : (i : Int) < (m : Int) := by omega
      clear hsi hcl hdr hsz hroom hY hlt him
      go_wp2_with fail
      refine CF.out.mono ?_
      rintro e w5 ⟨v5, rfl, hpk, hbk, hmod⟩
      obtain ⟨c, hcc⟩ : ∃ c, feedC most (left ++ s) = c := ⟨_, rfl⟩
      have HCC := Lib.hid hcc
      rw [hcc] at hbk ⊢
      have HBK := Lib.hid hbk
      have HBW := Lib.hid (hB.out.trans (hmod.below hB.out.size (fun k hk => by subst hk; exact Nat.le_refl _)))
      clear hcc hbk hpk hmod hR hB HTr CF hcell
      by_cases hc0 : c = 0
      · subst hc0
        have HYY : Hid ((feedR most (left ++ s)).size + bulkS (ss.drop (i + 1)) ≤ 1048576) := Lib.hid (by have := HSZ.out; have := HRM.out; omega)
        go_wp2_with fail
        go_roundw
        case rel => exact ⟨i + 1, _, by go_num, by omega, HBK, HYY, HBW⟩
        case measure => simp [intOf]; omega
      · have z0 : (c == 0) = false := beq_eq_false_iff_ne.2 hc0
        have z1 : (c != 0) = true := by rw [bne, z0]; rfl
        have CS := Lib.hid (fun X (hb : Blk X w.heap.size (srA most (feedR most (left ++ s)) c) 72) => sfeed_stop w.heap.size most (feedR most (left ++ s)) more c X hc0 hb)
        have hre : feedR most (left ++ s) = ⟨#[]⟩ := by unfold feedR; rw [HCC.out, if_pos hc0]
        rw [hre] at HBK CS
        clear hc0 hre
        go_wp2_with fail
        refine (CS.out _ HBK.out).mono ?_
        rintro e w6 ⟨rfl, b6⟩
        have HB6 := Lib.hid (HBK.out.of_below b6)
        have BB6 := Lib.hid (HBW.out.trans (b6.mono HBW.out.size))
        clear b6
        go_wp2_with fail
        refine (sleft_any w.heap.size most ⟨#[]⟩ c w6 HB6.out).mono ?_
        rintro e w7 ⟨rfl, b7⟩
        have BB7 := Lib.hid (BB6.out.trans (b7.mono BB6.out.size))
        clear b7
        go_wp2
        go_ret
        exact ⟨rfl, BB7.out⟩
    · obtain rfl : i = m := by omega
      have hnn : ¬ ((i : Int) < (i : Int)) := by omega
      go_wp2
      go_ret
      exact ⟨rfl, hB.out⟩
end Go.Proofs.YtedapgeabpadaaaDoor
