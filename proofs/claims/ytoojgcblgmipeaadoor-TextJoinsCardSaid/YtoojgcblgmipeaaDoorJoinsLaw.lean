/- TextJoins: the law's walk. -/
import Derived.Test.YtoojgcblgmipeaaDoorTextRef
import Derived.Test.YtoojgcblgmipeaaDoorJoinPlain
namespace Go.Proofs.YtoojgcblgmipeaaDoor
set_option linter.unusedVariables false
open Go.RowKit Pl Go.Shelf

theorem textJoins_walk (s : ByteArray) (hs : s.size ≤ 140737488351232) (t : ByteArray) (ht : t.size ≤ 140737488351232) (w : World) (hT : Tabs w) :
    Calls Tryd.prog 9 #[.string s, .string t] w fun e w' => e = .returned (.bool true) ∧ Below w.heap.size w w' := by
  have Hone := Lib.hid (show cutS { data := #[97, 98] } 1 = { data := #[97] } by decide)
  have HT := Lib.hid hT
  clear hT
  obtain ⟨sa1, sa2⟩ := cut_size s 400 (by omega)
  obtain ⟨sb1, sb2⟩ := cut_size t 400 (by omega)
  have fa := cut_text s 400
  have fb := cut_text t 400
  obtain ⟨a, ha⟩ : ∃ a, cutS s 400 = a := ⟨_, rfl⟩
  obtain ⟨b, hb⟩ : ∃ b, cutS t 400 = b := ⟨_, rfl⟩
  rw [ha] at sa1 sa2 fa
  rw [hb] at sb1 sb2 fb
  have Ha := Lib.hid ha
  have Hb := Lib.hid hb
  clear ha hb
  have hj := join_text (a := a) (b := b) (by rw [fa]) (by rw [fb])
  have hsz := size_app a b
  have hp := tput_back (s := a ++ b) (by omega) (by rw [hj.1])
  have Hf := Lib.hid hj.1
  have Hr := Lib.hid hj.2
  have Hc := Lib.hid hp.1
  have Hg := Lib.hid hp.2
  have hps : (tputS (a ++ b)).size ≤ 140737488351232 := by
    rw [(tput_ok (s := a ++ b) (by rw [hj.1])).2]
    have h1 := data_back (s := a ++ b) (by omega)
    unfold dataS
    rw [if_neg (by omega), size_app]
    have := fixS_len 2 (a ++ b).size
    have h2 : (⟨(fixS 2 ((a ++ b).size : Int)).toArray⟩ : ByteArray).size = (fixS 2 ((a ++ b).size : Int)).length := by show (fixS 2 ((a ++ b).size : Int)).toArray.size = _; rw [List.size_toArray]
    rw [h2]
    have : (2 : Int).toNat = 2 := rfl
    omega
  have hab : (a ++ b).size ≤ 800 := by omega
  have ra := rns_le a a.size 0
  have rb := rns_le b b.size 0
  clear hj hp hsz fa fb
  obtain ⟨x, hx⟩ : ∃ x, a ++ b = x := ⟨_, rfl⟩
  rw [hx] at Hf Hr Hc Hg hps hab
  obtain ⟨p, hpp⟩ : ∃ p, tputS x = p := ⟨_, rfl⟩
  have Hp := Lib.hid hpp
  rw [hpp] at Hg hps
  clear hpp
  obtain ⟨na, hna⟩ : ∃ n, rns a a.size 0 = n := ⟨_, rfl⟩
  obtain ⟨nb, hnb⟩ : ∃ n, rns b b.size 0 = n := ⟨_, rfl⟩
  rw [hna] at Hr ra
  rw [hnb] at Hr rb
  have Hna := Lib.hid hna
  have Hnb := Lib.hid hnb
  have Hx := Lib.hid hx
  clear hna hnb hx
  go_enter Tryd.func9, Tryd.ntmps9
  go_wp2_with fail
  refine (cut_any s 400 _ hs (by omega) (by omega) HT.out).mono ?_
  rintro e w1 ⟨rfl, b1⟩
  rw [Ha.out]
  have HT1 : Hid (Tabs w1) := Lib.hid (HT.out.below b1)
  go_wp2_with fail
  refine (cut_any t 400 _ ht (by omega) (by omega) HT1.out).mono ?_
  rintro e w2 ⟨rfl, b2⟩
  rw [Hb.out]
  have HT2 : Hid (Tabs w2) := Lib.hid (HT1.out.below b2)
  go_wp2_with fail
  rw [Hx.out]
  refine (fault_any x _ (by omega) HT2.out).mono ?_
  rintro e w3 ⟨rfl, b3⟩
  rw [Hf.out]
  have HT3 : Hid (Tabs w3) := Lib.hid (HT2.out.below b3)
  go_wp2_with fail
  rw [Hx.out]
  refine (tput_any x _ (by omega) HT3.out).mono ?_
  rintro e w4 ⟨rfl, b4⟩
  rw [Hp.out, Hc.out]
  have HT4 : Hid (Tabs w4) := Lib.hid (HT3.out.below b4)
  go_wp2_with fail
  refine (tget_any p 0 _ hps (by omega) (by omega) HT4.out).mono ?_
  rintro e w5 ⟨rfl, b5⟩
  rw [Hg.out]
  have HT5 : Hid (Tabs w5) := Lib.hid (HT4.out.below b5)
  go_wp2_with fail
  refine (cut_any _ 1 _ (by decide) (by omega) (by omega) HT5.out).mono ?_
  rintro e w6 ⟨rfl, b6⟩
  rw [Hone.out]
  have HT6 : Hid (Tabs w6) := Lib.hid (HT5.out.below b6)
  go_wp2_with fail
  rw [Hx.out]
  refine (runes_any x _ (by omega) HT6.out).mono ?_
  rintro e w7 ⟨rfl, b7⟩
  rw [Hr.out]
  have HT7 : Hid (Tabs w7) := Lib.hid (HT6.out.below b7)
  go_wp2_with fail
  refine (runes_any a _ (by omega) HT7.out).mono ?_
  rintro e w8 ⟨rfl, b8⟩
  rw [Hna.out]
  have HT8 : Hid (Tabs w8) := Lib.hid (HT7.out.below b8)
  go_wp2_with fail
  refine (runes_any b _ (by omega) HT8.out).mono ?_
  rintro e w9 ⟨rfl, b9⟩
  rw [Hnb.out]
  have hq1 : (x.toList == (a ++ b).toList) = true := by rw [Hx.out]; exact beq_self_eq_true _
  have hq2 : x.toList = (a ++ b).toList := by rw [Hx.out]
  go_wp2
  go_ret
  have c2 := b1.trans (b2.mono b1.size)
  have c3 := c2.trans (b3.mono c2.size)
  have c4 := c3.trans (b4.mono c3.size)
  have c5 := c4.trans (b5.mono c4.size)
  have c6 := c5.trans (b6.mono c5.size)
  have c7 := c6.trans (b7.mono c6.size)
  have c8 := c7.trans (b8.mono c7.size)
  exact ⟨rfl, c8.trans (b9.mono c8.size)⟩
end Go.Proofs.YtoojgcblgmipeaaDoor
