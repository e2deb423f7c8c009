/- PacketCuts: the law's walk. -/
import Derived.Test.YtlnanenfpapfkaaDoorH5P26
set_option linter.unusedVariables false
namespace Go.Proofs.YtlnanenfpapfkaaDoor
open Go.RowKit Pl Go.Shelf Go.PlainAid

set_option maxRecDepth 100000 in
set_option maxHeartbeats 4000000 in
theorem pcuts5_core (p : Pk) (m : Hs) (cut more : Int) (w : World) (hP : PkIn .u8 w p m) (hC : PkCap m) (hct : -9223372036854775808 ≤ cut ∧ cut ≤ 9223372036854775807) (hmo : 0 ≤ more ∧ more ≤ 255) (hT : Tabs w) :
    Calls Tryd.prog 6 #[.agg (pkA .u8 p m), .int .i64 cut, .int .u8 more] w fun e w' => e = .returned (.bool true) ∧ Below w.heap.size w w' := by
  have hB := Blk.new w (pkA .u8 p m) 29
  have b1 : Below w.heap.size w (w.alloc (.cells (pkA .u8 p m) 29)) := (Below.refl _ _).alloc (Nat.le_refl _) _
  obtain ⟨W, hW⟩ : ∃ W, w.alloc (.cells (pkA .u8 p m) 29) = W := ⟨_, rfl⟩
  rw [hW] at hB b1
  have C0 := Lib.hid (packets_n p m W (hP.below b1) hC)
  have HT := Lib.hid (hT.below b1)
  have HB := Lib.hid hB
  have B1 := Lib.hid b1
  clear hB b1 hP hC hT
  go_enter Tryd.func6, Tryd.ntmps6
  go_wp2_with (first | (refine wpList_load_row rfl 29 (.tmp 3) rfl w.heap.size rfl 29 (pkA .u8 p m) (0, 0) _ HB.out Tryd.underlying29 rfl lpk_size' ?_) | (fail))
  refine C0.out.mono ?_
  rintro e w1 ⟨m1, m2, rfl, P1, P2, b2⟩
  unfold pkV
  obtain ⟨q, hq⟩ : ∃ q, cutP p = q := ⟨_, rfl⟩
  rw [hq] at P1 P2 ⊢
  obtain ⟨Wa, hWa⟩ : ∃ Wa, w1.alloc (.cells #[.int .i64 0, .bool false, .bool false, .int .i64 0, .int .i64 0, .string ⟨#[]⟩, .string ⟨#[]⟩, .int .u8 0, .slice none 0 0, .slice none 0 0, .string ⟨#[]⟩, .bool false, .int .i64 0, .bool false, .string ⟨#[]⟩, .string ⟨#[]⟩, .int .i64 0, .bool false, .slice none 0 0, .bool false, .bool false, .string ⟨#[]⟩, .string ⟨#[]⟩, .bool false, .slice none 0 0, .slice none 0 0] 38) = Wa := ⟨_, rfl⟩
  have haa : Blk Wa w1.heap.size #[.int .i64 0, .bool false, .bool false, .int .i64 0, .int .i64 0, .string ⟨#[]⟩, .string ⟨#[]⟩, .int .u8 0, .slice none 0 0, .slice none 0 0, .string ⟨#[]⟩, .bool false, .int .i64 0, .bool false, .string ⟨#[]⟩, .string ⟨#[]⟩, .int .i64 0, .bool false, .slice none 0 0, .bool false, .bool false, .string ⟨#[]⟩, .string ⟨#[]⟩, .bool false, .slice none 0 0, .slice none 0 0] 38 := by rw [← hWa]; exact Blk.new _ _ _
  have ba : Below w1.heap.size w1 Wa := by rw [← hWa]; exact (Below.refl _ _).alloc (Nat.le_refl _) _
  obtain ⟨Wb, hWb⟩ : ∃ Wb, Wa.alloc (.cells #[.int .i64 0, .bool false, .bool false, .int .i64 0, .int .i64 0, .string ⟨#[]⟩, .string ⟨#[]⟩, .int .i64 0, .slice none 0 0, .slice none 0 0, .string ⟨#[]⟩, .bool false, .int .i64 0, .bool false, .string ⟨#[]⟩, .string ⟨#[]⟩, .int .i64 0, .bool false, .slice none 0 0, .bool false, .bool false, .string ⟨#[]⟩, .string ⟨#[]⟩, .bool false, .slice none 0 0, .slice none 0 0] 45) = Wb := ⟨_, rfl⟩
  have hab : Blk Wb w1.heap.size #[.int .i64 0, .bool false, .bool false, .int .i64 0, .int .i64 0, .string ⟨#[]⟩, .string ⟨#[]⟩, .int .u8 0, .slice none 0 0, .slice none 0 0, .string ⟨#[]⟩, .bool false, .int .i64 0, .bool false, .string ⟨#[]⟩, .string ⟨#[]⟩, .int .i64 0, .bool false, .slice none 0 0, .bool false, .bool false, .string ⟨#[]⟩, .string ⟨#[]⟩, .bool false, .slice none 0 0, .slice none 0 0] 38 := by rw [← hWb]; exact haa.alloc _
  have hbb : Blk Wb Wa.heap.size #[.int .i64 0, .bool false, .bool false, .int .i64 0, .int .i64 0, .string ⟨#[]⟩, .string ⟨#[]⟩, .int .i64 0, .slice none 0 0, .slice none 0 0, .string ⟨#[]⟩, .bool false, .int .i64 0, .bool false, .string ⟨#[]⟩, .string ⟨#[]⟩, .int .i64 0, .bool false, .slice none 0 0, .bool false, .bool false, .string ⟨#[]⟩, .string ⟨#[]⟩, .bool false, .slice none 0 0, .slice none 0 0] 45 := by rw [← hWb]; exact Blk.new _ _ _
  have bb : Below w1.heap.size w1 Wb := by rw [← hWb]; exact ba.alloc ba.size _
  have gab : w1.heap.size < Wa.heap.size := haa.lt
  obtain ⟨Wc, hWc⟩ : ∃ Wc, Wb.setRow w1.heap.size (pkA .u8 q m1) = Wc := ⟨_, rfl⟩
  have hac : Blk Wc w1.heap.size (pkA .u8 q m1) 38 := by rw [← hWc]; exact hab.row _
  have hbc : Blk Wc Wa.heap.size #[.int .i64 0, .bool false, .bool false, .int .i64 0, .int .i64 0, .string ⟨#[]⟩, .string ⟨#[]⟩, .int .i64 0, .slice none 0 0, .slice none 0 0, .string ⟨#[]⟩, .bool false, .int .i64 0, .bool false, .string ⟨#[]⟩, .string ⟨#[]⟩, .int .i64 0, .bool false, .slice none 0 0, .bool false, .bool false, .string ⟨#[]⟩, .string ⟨#[]⟩, .bool false, .slice none 0 0, .slice none 0 0] 45 := by rw [← hWc]; exact hbb.row_ (by omega) _
  have bc : Below w1.heap.size w1 Wc := by rw [← hWc]; exact below_setRow bb (by omega) _
  obtain ⟨Wd, hWd⟩ : ∃ Wd, Wc.setRow Wa.heap.size (pkA .i64 q m2) = Wd := ⟨_, rfl⟩
  have had : Blk Wd w1.heap.size (pkA .u8 q m1) 38 := by rw [← hWd]; exact hac.row_ (by omega) _
  have bd : Below w1.heap.size w1 Wd := by rw [← hWd]; exact below_setRow bc (by omega) _
  have HAB := Lib.hid hab
  have HBC := Lib.hid hbc
  have HAD := Lib.hid had
  have HBC0 : Hid (Blk (Wb.setRow w1.heap.size (pkA .u8 q m1)) Wa.heap.size #[.int .i64 0, .bool false, .bool false, .int .i64 0, .int .i64 0, .string ⟨#[]⟩, .string ⟨#[]⟩, .int .i64 0, .slice none 0 0, .slice none 0 0, .string ⟨#[]⟩, .bool false, .int .i64 0, .bool false, .string ⟨#[]⟩, .string ⟨#[]⟩, .int .i64 0, .bool false, .slice none 0 0, .bool false, .bool false, .string ⟨#[]⟩, .string ⟨#[]⟩, .bool false, .slice none 0 0, .slice none 0 0] 45) := Lib.hid (by rw [hWc]; exact hbc)
  have HAD0 : Hid (Blk ((Wb.setRow w1.heap.size (pkA .u8 q m1)).setRow Wa.heap.size (pkA .i64 q m2)) w1.heap.size (pkA .u8 q m1) 38) := Lib.hid (by rw [hWc, hWd]; exact had)
  have B2 := Lib.hid (B1.out.trans ((b2.mono B1.out.size).trans (bd.mono (Nat.le_trans B1.out.size b2.size))))
  have HTd := Lib.hid ((HT.out.below b2).below bd)
  have HP1 := P1.below bd
  have hcb := pkC_bd q
  obtain ⟨cd, hcd⟩ : ∃ c, pkC q = c := ⟨_, rfl⟩
  obtain ⟨s, hs⟩ : ∃ s, pkS q = s := ⟨_, rfl⟩
  have CA : ∀ (X : World), PkIn .u8 X q m1 → Tabs X → Calls Tryd.prog 9 #[.agg (pkA .u8 q m1)] X fun e w' => e = .returned (.tuple #[.string s, .int .u8 cd]) ∧ Below X.heap.size X w' := fun X h1 h2 => by rw [← hs, ← hcd]; exact wput_any q m1 X h1 h2
  have CA := Lib.hid (CA _ HP1 HTd.out)
  have HCD := Lib.hid hcd
  have HS := Lib.hid hs
  clear haa ba hab hbb bb gab hac hbc bc had bd b2 P1 P2 HP1 hq hs hcd HT HB C0 hW hcb
  go_wp2_with (first | (refine wpList_store_rowTo rfl 38 (.tmp 7) (.tmp 18) rfl rfl w1.heap.size (pkA .u8 q m1) rfl rfl 38 #[.int .i64 0, .bool false, .bool false, .int .i64 0, .int .i64 0, .string ⟨#[]⟩, .string ⟨#[]⟩, .int .u8 0, .slice none 0 0, .slice none 0 0, .string ⟨#[]⟩, .bool false, .int .i64 0, .bool false, .string ⟨#[]⟩, .string ⟨#[]⟩, .int .i64 0, .bool false, .slice none 0 0, .bool false, .bool false, .string ⟨#[]⟩, .string ⟨#[]⟩, .bool false, .slice none 0 0, .slice none 0 0] HAB.out ppk_size rfl (pkA_oneP _ _ _) ?_) | (refine wpList_store_rowTo rfl 45 (.tmp 8) (.tmp 19) rfl rfl Wa.heap.size (pkA .i64 q m2) rfl rfl 45 #[.int .i64 0, .bool false, .bool false, .int .i64 0, .int .i64 0, .string ⟨#[]⟩, .string ⟨#[]⟩, .int .i64 0, .slice none 0 0, .slice none 0 0, .string ⟨#[]⟩, .bool false, .int .i64 0, .bool false, .string ⟨#[]⟩, .string ⟨#[]⟩, .int .i64 0, .bool false, .slice none 0 0, .bool false, .bool false, .string ⟨#[]⟩, .string ⟨#[]⟩, .bool false, .slice none 0 0, .slice none 0 0] HBC.out rpk_size' rfl (pkA_oneP _ _ _) ?_) | (refine wpList_store_rowTo rfl 45 (.tmp 8) (.tmp 19) rfl rfl Wa.heap.size (pkA .i64 q m2) rfl rfl 45 #[.int .i64 0, .bool false, .bool false, .int .i64 0, .int .i64 0, .string ⟨#[]⟩, .string ⟨#[]⟩, .int .i64 0, .slice none 0 0, .slice none 0 0, .string ⟨#[]⟩, .bool false, .int .i64 0, .bool false, .string ⟨#[]⟩, .string ⟨#[]⟩, .int .i64 0, .bool false, .slice none 0 0, .bool false, .bool false, .string ⟨#[]⟩, .string ⟨#[]⟩, .bool false, .slice none 0 0, .slice none 0 0] HBC0.out rpk_size' rfl (pkA_oneP _ _ _) ?_) | (refine wpList_load_row rfl 38 (.tmp 7) rfl w1.heap.size rfl 38 (pkA .u8 q m1) (0, 0) _ HAD.out Tryd.underlying38 rfl ppk_size ?_) | (refine wpList_load_row rfl 38 (.tmp 7) rfl w1.heap.size rfl 38 (pkA .u8 q m1) (0, 0) _ HAD0.out Tryd.underlying38 rfl ppk_size ?_) | (fail))
  refine CA.out.mono ?_
  rintro e w2 ⟨rfl, b3⟩
  have B3 := Lib.hid (B2.out.trans (b3.mono B2.out.size))
  have HTe := Lib.hid (HTd.out.below b3)
  have HAE := Lib.hid (HAD.out.of_below b3)
  clear b3 HAB HBC HAD HBC0 HAD0 HTd CA
  clear hWa hWb hWc hWd
  by_cases h0 : cd = 0
  · subst h0
    have hsz : s.size ≤ 70000 ∧ 1 ≤ s.size := by rw [← HS.out]; exact pkS_bd HCD.out
    obtain ⟨hs2, hs1⟩ := hsz
    obtain ⟨d, hd⟩ : ∃ d : Nat, max (0 : Int) cut = d := ⟨(max 0 cut).toNat, by omega⟩
    have hd2 : (d : Int) ≤ 9223372036854775807 := by omega
    have hq0 := Nat.mod_lt d (show 0 < s.size by omega)
    obtain ⟨k, hk⟩ : ∃ k, d % s.size = k := ⟨_, rfl⟩
    rw [hk] at hq0
    have hqI : (d : Int) % (s.size : Int) = (k : Int) := by rw [← hk]; simp
    have hq1 : (k : Int) ≤ (s.size : Int) := by omega
    have hsz0 : ((s.size : Int) == 0) = false := by rw [beq_eq_false_iff_ne]; omega
    have hse : s.toList.isEmpty = false := toList_ne hs1
    have hse2 : (s.toList == []) = false := by rw [beq_eq_false_iff_ne]; intro c; rw [c] at hse; cases hse
    have hg1 : pkGet (s.extract 0 k) = (zPk, 242) := by rw [← HS.out]; exact pk_cut HCD.out (by rw [HS.out]; exact hq0)
    have hg2 : pkGet (s ++ ⟨#[UInt8.ofNat more.toNat]⟩) = (zPk, 129) := by rw [← HS.out]; exact pk_more HCD.out (Nat.zero_lt_one)
    have CG1 : ∀ (X : World), Tabs X → Calls Tryd.prog 12 #[.string (s.extract 0 k)] X (GotPost X zPk 242) := fun X h => by have := pkget_any (s.extract 0 k) X (by rw [ByteArray.size_extract]; omega) h; rw [hg1] at this; exact this
    have CG2 : ∀ (X : World), Tabs X → Calls Tryd.prog 12 #[.string (s ++ ⟨#[UInt8.ofNat more.toNat]⟩)] X (GotPost X zPk 129) := fun X h => by have := pkget_any (s ++ ⟨#[UInt8.ofNat more.toNat]⟩) X (by rw [ByteArray.size_append]; show s.size + 1 ≤ _; omega) h; rw [hg2] at this; exact this
    have CG1 := Lib.hid CG1
    have CG2 := Lib.hid CG2
    clear hk hd2 hg1 hg2 HCD HS HAE
    go_wp2_with fail
    refine (lwakes_any _ HTe.out).mono ?_
    rintro e w4 ⟨rfl, b4⟩
    have B4 := Lib.hid (B3.out.trans (b4.mono B3.out.size))
    have HTf := Lib.hid (HTe.out.below b4)
    clear b4
    go_wp2_with fail
    refine (CG1.out _ HTf.out).mono ?_
    rintro e V5 ⟨m3, rfl, ho, bv⟩
    obtain ⟨Y5, hY5⟩ : ∃ Y5, V5.alloc (.cells #[.int .i64 0, .bool false, .bool false, .int .i64 0, .int .i64 0, .string ⟨#[]⟩, .string ⟨#[]⟩, .int .u8 0, .slice none 0 0, .slice none 0 0, .string ⟨#[]⟩, .bool false, .int .i64 0, .bool false, .string ⟨#[]⟩, .string ⟨#[]⟩, .int .i64 0, .bool false, .slice none 0 0, .bool false, .bool false, .string ⟨#[]⟩, .string ⟨#[]⟩, .bool false, .slice none 0 0, .slice none 0 0] 38) = Y5 := ⟨_, rfl⟩
    have hy : Blk Y5 V5.heap.size #[.int .i64 0, .bool false, .bool false, .int .i64 0, .int .i64 0, .string ⟨#[]⟩, .string ⟨#[]⟩, .int .u8 0, .slice none 0 0, .slice none 0 0, .string ⟨#[]⟩, .bool false, .int .i64 0, .bool false, .string ⟨#[]⟩, .string ⟨#[]⟩, .int .i64 0, .bool false, .slice none 0 0, .bool false, .bool false, .string ⟨#[]⟩, .string ⟨#[]⟩, .bool false, .slice none 0 0, .slice none 0 0] 38 := by rw [← hY5]; exact Blk.new _ _ _
    have by_ : Below V5.heap.size V5 Y5 := by rw [← hY5]; exact (Below.refl _ _).alloc (Nat.le_refl _) _
    obtain ⟨Z5, hZ5⟩ : ∃ Z5, Y5.setRow V5.heap.size (pkA .u8 zPk m3) = Z5 := ⟨_, rfl⟩
    have hz : Blk Z5 V5.heap.size (pkA .u8 zPk m3) 38 := by rw [← hZ5]; exact hy.row _
    have bz : Below V5.heap.size V5 Z5 := by rw [← hZ5]; exact below_setRow by_ (Nat.le_refl _) _
    have HY5 := Lib.hid hy
    have HZ5 := Lib.hid hz
    have HW5 : Hid (Blk (Y5.setRow V5.heap.size (pkA .u8 zPk m3)) V5.heap.size (pkA .u8 zPk m3) 38) := Lib.hid (by rw [hZ5]; exact hz)
    have B5 := Lib.hid (B4.out.trans ((bv.trans (bz.mono bv.size)).mono B4.out.size))
    have HTg := Lib.hid ((HTf.out.below bv).below bz)
    clear ho bv hy by_ hz bz
    obtain ⟨U, hU⟩ : ∃ U, Z5.alloc (.cells #[.int .u8 more] 5) = U := ⟨_, rfl⟩
    have bu : Below Z5.heap.size Z5 U := by rw [← hU]; exact (Below.refl _ _).alloc (Nat.le_refl _) _
    have BU := Lib.hid (B5.out.trans (bu.mono B5.out.size))
    have HTh := Lib.hid (HTg.out.below bu)
    have CS := run_string_one (P := Tryd.prog) (w := Z5) 22 9 5 more (by kernel_rfl) (by kernel_rfl) (by kernel_rfl)
    rw [hU] at CS
    clear bu
    go_wp2_with (first | (refine wpList_store_rowTo rfl 38 (.tmp 11) (.tmp 49) rfl rfl V5.heap.size (pkA .u8 zPk m3) rfl rfl 38 #[.int .i64 0, .bool false, .bool false, .int .i64 0, .int .i64 0, .string ⟨#[]⟩, .string ⟨#[]⟩, .int .u8 0, .slice none 0 0, .slice none 0 0, .string ⟨#[]⟩, .bool false, .int .i64 0, .bool false, .string ⟨#[]⟩, .string ⟨#[]⟩, .int .i64 0, .bool false, .slice none 0 0, .bool false, .bool false, .string ⟨#[]⟩, .string ⟨#[]⟩, .bool false, .slice none 0 0, .slice none 0 0] HY5.out ppk_size rfl (pkA_oneP _ _ _) ?_) | (fail))
    refine (CG2.out _ HTh.out).mono ?_
    rintro e V6 ⟨m5, rfl, ho, bv⟩
    obtain ⟨Y6, hY6⟩ : ∃ Y6, V6.alloc (.cells #[.int .i64 0, .bool false, .bool false, .int .i64 0, .int .i64 0, .string ⟨#[]⟩, .string ⟨#[]⟩, .int .u8 0, .slice none 0 0, .slice none 0 0, .string ⟨#[]⟩, .bool false, .int .i64 0, .bool false, .string ⟨#[]⟩, .string ⟨#[]⟩, .int .i64 0, .bool false, .slice none 0 0, .bool false, .bool false, .string ⟨#[]⟩, .string ⟨#[]⟩, .bool false, .slice none 0 0, .slice none 0 0] 38) = Y6 := ⟨_, rfl⟩
    have hy : Blk Y6 V6.heap.size #[.int .i64 0, .bool false, .bool false, .int .i64 0, .int .i64 0, .string ⟨#[]⟩, .string ⟨#[]⟩, .int .u8 0, .slice none 0 0, .slice none 0 0, .string ⟨#[]⟩, .bool false, .int .i64 0, .bool false, .string ⟨#[]⟩, .string ⟨#[]⟩, .int .i64 0, .bool false, .slice none 0 0, .bool false, .bool false, .string ⟨#[]⟩, .string ⟨#[]⟩, .bool false, .slice none 0 0, .slice none 0 0] 38 := by rw [← hY6]; exact Blk.new _ _ _
    have by_ : Below V6.heap.size V6 Y6 := by rw [← hY6]; exact (Below.refl _ _).alloc (Nat.le_refl _) _
    obtain ⟨Z6, hZ6⟩ : ∃ Z6, Y6.setRow V6.heap.size (pkA .u8 zPk m5) = Z6 := ⟨_, rfl⟩
    have hz : Blk Z6 V6.heap.size (pkA .u8 zPk m5) 38 := by rw [← hZ6]; exact hy.row _
    have bz : Below V6.heap.size V6 Z6 := by rw [← hZ6]; exact below_setRow by_ (Nat.le_refl _) _
    have HY6 := Lib.hid hy
    have HZ6 := Lib.hid hz
    have HW6 : Hid (Blk (Y6.setRow V6.heap.size (pkA .u8 zPk m5)) V6.heap.size (pkA .u8 zPk m5) 38) := Lib.hid (by rw [hZ6]; exact hz)
    have B6 := Lib.hid (BU.out.trans ((bv.trans (bz.mono bv.size)).mono BU.out.size))
    have HTi := Lib.hid ((HTh.out.below bv).below bz)
    clear ho bv hy by_ hz bz
    go_wp2_with (first | (refine wpList_store_rowTo rfl 38 (.tmp 13) (.tmp 58) rfl rfl V6.heap.size (pkA .u8 zPk m5) rfl rfl 38 #[.int .i64 0, .bool false, .bool false, .int .i64 0, .int .i64 0, .string ⟨#[]⟩, .string ⟨#[]⟩, .int .u8 0, .slice none 0 0, .slice none 0 0, .string ⟨#[]⟩, .bool false, .int .i64 0, .bool false, .string ⟨#[]⟩, .string ⟨#[]⟩, .int .i64 0, .bool false, .slice none 0 0, .bool false, .bool false, .string ⟨#[]⟩, .string ⟨#[]⟩, .bool false, .slice none 0 0, .slice none 0 0] HY6.out ppk_size rfl (pkA_oneP _ _ _) ?_) | (fail))
    go_ret
    exact ⟨rfl, B6.out⟩
  · obtain rfl : s = ⟨#[]⟩ := by rw [← HS.out]; unfold pkS; rw [if_neg (by rw [HCD.out]; exact h0)]
    have e0 : (cd == 0) = false := beq_eq_false_iff_ne.2 h0
    have e1 : (cd != 0) = true := by rw [bne, e0]; rfl
    clear h0 HS HCD
    go_wp2_with fail
    refine (lwakes_any _ HTe.out).mono ?_
    rintro e w4 ⟨rfl, b4⟩
    have B4 := Lib.hid (B3.out.trans (b4.mono B3.out.size))
    have HTf := Lib.hid (HTe.out.below b4)
    clear b4
    go_wp2_with fail
    refine (lwakes_any _ HTf.out).mono ?_
    rintro e w5 ⟨rfl, b5⟩
    have B5 := Lib.hid (B4.out.trans (b5.mono B4.out.size))
    have HTg := Lib.hid (HTf.out.below b5)
    clear b5
    go_wp2
    go_ret
    exact ⟨rfl, B5.out⟩
theorem packetCuts_walk (v : Value) (x : PkX) (cut : Int) (hw : (Lit.int .i64 cut).wf = true) (more : Int) (hw2 : (Lit.int .u8 more).wf = true) (w : World) (h : PkOk w v x) (u : bulkPx x ≤ 1048576) (hT : Tabs w) :
    Calls Tryd.prog 6 #[v, .int .i64 cut, .int .u8 more] w fun e w' => e = .returned (.bool true) ∧ Below w.heap.size w w' := by
  obtain ⟨rfl, hP, hC⟩ := h u
  exact pcuts5_core x.p x.m cut more w hP hC (i64_bd hw) (u8_bd hw2) hT
end Go.Proofs.YtlnanenfpapfkaaDoor
