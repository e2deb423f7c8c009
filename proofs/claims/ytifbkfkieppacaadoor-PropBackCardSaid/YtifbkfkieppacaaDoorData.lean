/- The walks of both Data and both GetData functions. -/
import Derived.Test.YtifbkfkieppacaaDoorGetFix
import Derived.Test.YtifbkfkieppacaaDoorDataPlain
namespace Go.Proofs.YtifbkfkieppacaaDoor
open Go.RowKit Pl
open Go.PlainAid (bt bt_nonneg bt_le get_bt bt_end)

theorem ret_data {k : IntKind} {s : ByteArray} {c : Int} {x : ByteArray} (h : dataC s = c ∧ dataS s = x) :
    Ending.returned (.tuple #[.string x, .int k c]) = .returned (.tuple #[.string (dataS s), .int k (dataC s)]) := by rw [h.1, h.2]
theorem ret_getd {k : IntKind} {p : ByteArray × Int × Int} {x : ByteArray} {y z : Int} (h : p = (x, y, z)) :
    Ending.returned (.tuple #[.string x, .int .i64 y, .int k z]) = .returned (.tuple #[.string p.1, .int .i64 p.2.1, .int k p.2.2]) := by rw [h]

set_option maxRecDepth 100000 in
theorem data_all (s : ByteArray) (w : World) (_hs : s.size ≤ 140737488351232) :
    Calls Tryd.prog 31 #[.string s] w fun e w' => e = .returned (.tuple #[.string (dataS s), .int .u8 (dataC s)]) ∧ Below w.heap.size w w' := by
  by_cases hb : 65535 < s.size
  · have hd := Lib.hid (data_big hb)
    go_enter Tryd.func31, Tryd.ntmps31
    go_wp2
    go_ret2
    exact ⟨ret_data hd.out, Below.refl _ _⟩
  · have hd := Lib.hid (data_ok hb)
    have hl := fixS_len 2 s.size
    go_enter Tryd.func31, Tryd.ntmps31
    go_wp2_with fail
    refine (fixed_all 2 s.size _).mono ?_
    rintro e w1 ⟨rfl, b1⟩
    go_wp2
    go_ret2
    exact ⟨ret_data hd.out, b1⟩

set_option maxRecDepth 100000 in
theorem refdata_all (s : ByteArray) (w : World) (_hs : s.size ≤ 140737488351232) :
    Calls Tryd.prog 38 #[.string s] w fun e w' => e = .returned (.tuple #[.string (dataS s), .int .i64 (dataC s)]) ∧ Below w.heap.size w w' := by
  by_cases hb : 65535 < s.size
  · have hd := Lib.hid (data_big hb)
    go_enter Tryd.func38, Tryd.ntmps38
    go_wp2
    go_ret2
    exact ⟨ret_data hd.out, Below.refl _ _⟩
  · have hd := Lib.hid (data_ok hb)
    have hl := fixS_len 2 s.size
    go_enter Tryd.func38, Tryd.ntmps38
    go_wp2_with fail
    refine (reffixed_all 2 s.size _).mono ?_
    rintro e w1 ⟨rfl, b1⟩
    go_wp2
    go_ret2
    exact ⟨ret_data hd.out, b1⟩

set_option maxRecDepth 100000 in
theorem getdata_all (s : ByteArray) (at_ : Int) (w : World) (hs : s.size ≤ 140737488351232) (h0 : -9223372036854775808 ≤ at_) (h1 : at_ ≤ 9223372036854775807) :
    Calls Tryd.prog 44 #[.string s, .int .i64 at_] w fun e w' => e = .returned (.tuple #[.string (getD s at_).1, .int .i64 (getD s at_).2.1, .int .u8 (getD s at_).2.2]) ∧ w = w' := by
  rcases getF_two s at_ with hg | hg | ⟨a, m, rfl, hg, hm, ha⟩
  · have hd := Lib.hid (getD_code hg (by decide))
    go_enter Tryd.func44, Tryd.ntmps44
    go_wp2_with fail
    refine (getfixed_all s at_ 2 _ hs h0 h1).mono ?_
    rintro e w1 ⟨rfl, rfl⟩
    rw [hg]
    clear hg
    go_wp2
    go_ret3
    exact ⟨ret_getd hd.out, rfl⟩
  · have hd := Lib.hid (getD_code hg (by decide))
    go_enter Tryd.func44, Tryd.ntmps44
    go_wp2_with fail
    refine (getfixed_all s at_ 2 _ hs h0 h1).mono ?_
    rintro e w1 ⟨rfl, rfl⟩
    rw [hg]
    clear hg
    go_wp2
    go_ret3
    exact ⟨ret_getd hd.out, rfl⟩
  · by_cases hn : a + 2 + m ≤ s.size
    · have hd := Lib.hid (getD_ok hg hn)
      have hg' := Lib.hid hg
      clear hg
      go_enter Tryd.func44, Tryd.ntmps44
      go_wp2_with fail
      refine (getfixed_all s a 2 _ hs h0 h1).mono ?_
      rintro e w1 ⟨rfl, rfl⟩
      rw [hg'.out]
      go_wp2
      go_ret3
      exact ⟨ret_getd hd.out, rfl⟩
    · have hd := Lib.hid (getD_none hg (by omega))
      have hg' := Lib.hid hg
      clear hg
      go_enter Tryd.func44, Tryd.ntmps44
      go_wp2_with fail
      refine (getfixed_all s a 2 _ hs h0 h1).mono ?_
      rintro e w1 ⟨rfl, rfl⟩
      rw [hg'.out]
      go_wp2
      go_ret3
      exact ⟨ret_getd hd.out, rfl⟩

set_option maxRecDepth 100000 in
theorem refgetdata_all (s : ByteArray) (at_ : Int) (w : World) (hs : s.size ≤ 140737488351232) (h0 : -9223372036854775808 ≤ at_) (h1 : at_ ≤ 9223372036854775807) :
    Calls Tryd.prog 48 #[.string s, .int .i64 at_] w fun e w' => e = .returned (.tuple #[.string (getD s at_).1, .int .i64 (getD s at_).2.1, .int .i64 (getD s at_).2.2]) ∧ w = w' := by
  rcases getF_two s at_ with hg | hg | ⟨a, m, rfl, hg, hm, ha⟩
  · have hd := Lib.hid (getD_code hg (by decide))
    go_enter Tryd.func48, Tryd.ntmps48
    go_wp2_with fail
    refine (refgetfixed_all s at_ 2 _ hs h0 h1).mono ?_
    rintro e w1 ⟨rfl, rfl⟩
    rw [hg]
    clear hg
    go_wp2
    go_ret3
    exact ⟨ret_getd hd.out, rfl⟩
  · have hd := Lib.hid (getD_code hg (by decide))
    go_enter Tryd.func48, Tryd.ntmps48
    go_wp2_with fail
    refine (refgetfixed_all s at_ 2 _ hs h0 h1).mono ?_
    rintro e w1 ⟨rfl, rfl⟩
    rw [hg]
    clear hg
    go_wp2
    go_ret3
    exact ⟨ret_getd hd.out, rfl⟩
  · by_cases hn : a + 2 + m ≤ s.size
    · have hd := Lib.hid (getD_ok hg hn)
      have hg' := Lib.hid hg
      clear hg
      go_enter Tryd.func48, Tryd.ntmps48
      go_wp2_with fail
      refine (refgetfixed_all s a 2 _ hs h0 h1).mono ?_
      rintro e w1 ⟨rfl, rfl⟩
      rw [hg'.out]
      go_wp2
      go_ret3
      exact ⟨ret_getd hd.out, rfl⟩
    · have hd := Lib.hid (getD_none hg (by omega))
      have hg' := Lib.hid hg
      clear hg
      go_enter Tryd.func48, Tryd.ntmps48
      go_wp2_with fail
      refine (refgetfixed_all s a 2 _ hs h0 h1).mono ?_
      rintro e w1 ⟨rfl, rfl⟩
      rw [hg'.out]
      go_wp2
      go_ret3
      exact ⟨ret_getd hd.out, rfl⟩
end Go.Proofs.YtifbkfkieppacaaDoor
