/- PacketFlags: the law's walk. -/
import Derived.Test.YtlnanenfpapfkaaDoorH5P26
set_option linter.unusedVariables false
namespace Go.Proofs.YtlnanenfpapfkaaDoor
open Go.RowKit Pl Go.Shelf Go.PlainAid

theorem u8_240 : ∀ n : Fin 256, bits .and .u8 ((n.val : Nat) : Int) 240 = ((n.val / 16 * 16 : Nat) : Int) := by decide +kernel
theorem u8_15 : ∀ n : Fin 256, bits .and .u8 ((n.val : Nat) : Int) 15 = ((n.val % 16 : Nat) : Int) := by decide +kernel
theorem u8_or : ∀ (n m : Fin 16), bits .or .u8 ((16 * n.val : Nat) : Int) ((m.val : Nat) : Int) = ((16 * n.val + m.val : Nat) : Int) := by decide +kernel
theorem and_240 {b : Int} (h0 : 0 ≤ b) (h1 : b < 256) : bits .and .u8 b 240 = b / 16 * 16 := by
  obtain ⟨n, rfl⟩ := hb_fin h0 h1
  rw [u8_240]
  omega
theorem and_15 {b : Int} (h0 : 0 ≤ b) (h1 : b < 256) : bits .and .u8 b 15 = b % 16 := by
  obtain ⟨n, rfl⟩ := hb_fin h0 h1
  rw [u8_15]
  omega
theorem or_16 {n m : Int} (h0 : 0 ≤ n) (h1 : n < 16) (h2 : 0 ≤ m) (h3 : m < 16) : bits .or .u8 (16 * n) m = 16 * n + m := by
  have := u8_or ⟨n.toNat, by omega⟩ ⟨m.toNat, by omega⟩
  have e1 : ((16 * n.toNat : Nat) : Int) = 16 * n := by omega
  have e2 : ((m.toNat : Nat) : Int) = m := by omega
  have e3 : ((16 * n.toNat + m.toNat : Nat) : Int) = 16 * n + m := by omega
  simp only at this
  rw [e1, e2, e3] at this
  exact this
/-- A byte ahead of the rest. -/
theorem bt_head (x : Int) (h0 : 0 ≤ x) (h1 : x < 256) (t : ByteArray) : bt ((⟨#[UInt8.ofNat x.toNat]⟩ : ByteArray) ++ t) 0 = x := by
  rw [bt_left _ _ (Nat.zero_lt_one)]
  unfold bt
  rw [dif_pos (show 0 < (⟨#[UInt8.ofNat x.toNat]⟩ : ByteArray).size from Nat.zero_lt_one)]
  show (((UInt8.ofNat x.toNat).toNat : Nat) : Int) = x
  have : (UInt8.ofNat x.toNat).toNat = x.toNat := by
    rw [UInt8.toNat_ofNat']
    exact Nat.mod_eq_of_lt (by omega)
  rw [this]
  omega
theorem head_rest {s : ByteArray} (h : 1 ≤ s.size) : (⟨#[UInt8.ofNat (bt s 0).toNat]⟩ : ByteArray) ++ s.extract 1 s.size = s := by
  have hb : bt s 0 = ((s[0].toNat : Nat) : Int) := by unfold bt; rw [dif_pos (by omega)]
  apply ByteArray.ext
  rw [ByteArray.data_append, hb, Int.toNat_natCast, UInt8.ofNat_toNat]
  apply Array.ext
  · simp; omega
  · intro i h1 h2
    rw [Array.getElem_append]
    split
    · rename_i h3
      have : i = 0 := by simp at h3; omega
      subst this
      rfl
    · rename_i h3
      simp at h3
      simp [ByteArray.data_extract]
      congr 1
      omega
set_option maxRecDepth 100000 in
set_option maxHeartbeats 4000000 in
theorem pflags5_core (p : Pk) (m : Hs) (fl : Int) (w : World) (hP : PkIn .u8 w p m) (hC : PkCap m) (hfl : 0 ≤ fl ∧ fl ≤ 255) (hT : Tabs w) :
    Calls Tryd.prog 7 #[.agg (pkA .u8 p m), .int .u8 fl] w fun e w' => e = .returned (.bool true) ∧ Below w.heap.size w w' := by
  have hB := Blk.new w (pkA .u8 p m) 29
  have b1 : Below w.heap.size w (w.alloc (.cells (pkA .u8 p m) 29)) := (Below.refl _ _).alloc (Nat.le_refl _) _
  obtain ⟨W, hW⟩ : ∃ W, w.alloc (.cells (pkA .u8 p m) 29) = W := ⟨_, rfl⟩
  rw [hW] at hB b1
  have C0 := Lib.hid (packets_n p m W (hP.below b1) hC)
  have HT := Lib.hid (hT.below b1)
  have HB := Lib.hid hB
  have B1 := Lib.hid b1
  clear hB b1 hP hC hT
  go_enter Tryd.func7, Tryd.ntmps7
  go_wp2_with (first | (refine wpList_load_row rfl 29 (.tmp 2) rfl w.heap.size rfl 29 (pkA .u8 p m) (0, 0) _ HB.out Tryd.underlying29 rfl lpk_size' ?_) | (fail))
  refine C0.out.mono ?_
  rintro e w1 ⟨m1, m2, rfl, P1, P2, b2⟩
  unfold pkV
  obtain ⟨q, hq⟩ : ∃ q, cutP p = q := ⟨_, rfl⟩
  rw [hq] at P1 P2 ⊢
  obtain ⟨Wa, hWa⟩ : ∃ Wa, w1.alloc (.cells #[.int .i64 0, .bool false, .bool false, .int .i64 0, .int .i64 0, .string ⟨#[]⟩, .string ⟨#[]⟩, .int .u8 0, .slice none 0 0, .slice none 0 0, .string ⟨#[]⟩, .bool false, .int .i64 0, .bool false, .string ⟨#[]⟩, .string ⟨#[]⟩, .int .i64 0, .bool false, .slice none 0 0, .bool false, .bool false, .string ⟨#[]⟩, .string ⟨#[]⟩, .bool false, .slice none 0 0, .slice none 0 0] 38) = Wa := ⟨_, rfl⟩
  have haa : Blk Wa w1.heap.size #[.int .i64 0, .bool false, .bool false, .int .i64 0, .int .i64 0, .string ⟨#[]⟩, .string ⟨#[]⟩, .int .u8 0, .slice none 0 0, .slice none 0 0, .string ⟨#[]⟩, .bool false, .int .i64 0, .bool false, .string ⟨#[]⟩, .string ⟨#[]⟩, .int .i64 0, .bool false, .slice none 0 0, .bool false, .bool false, .string ⟨#[]⟩, .string ⟨#[]⟩, .bool false, .slice none 0 0, .slice none 0 0] 38 := by rw [← hWa]; exact Blk.new _ _ _
  have ba : Below w1.heap.size w1 Wa := by rw [← hWa]; exact (Below.refl _ _).alloc (Nat.le_refl _) _
  obtain ⟨Wb, hWb⟩ : ∃ Wb, Wa.alloc (.cells #[.int .i64 0, .bool false, .bool false, .int .i64 0, .int .i64 0, .string ⟨#[]⟩, .string ⟨#[]⟩, .int .i64 0, .slice none 0 0, .slice none 0 0, .string ⟨#[]⟩, .bool false, .int .i64 0, .bool false, .string ⟨#[]⟩, .string ⟨#[]⟩, .int .i64 0, .bool false, .slice none 0 0, .bool false, .bool false, .string ⟨#[]⟩, .string ⟨#[]⟩, .bool false, .slice none 0 0, .slice none 0 0] 45) = Wb := ⟨_, rfl⟩
  have hab : Blk Wb w1.heap.size #[.int .i64 0, .bool false, .bool false, .int .i64 0, .int .i64 0, .string ⟨#[]⟩, .string ⟨#[]⟩, .int .u8 0, .slice none 0 0, .slice none 0 0, .string ⟨#[]⟩, .bool false, .int .i64 0, .bool false, .string ⟨#[]⟩, .string ⟨#[]⟩, .int .i64 0, .bool false, .slice none 0 0, .bool false, .bool false, .string ⟨#[]⟩, .string ⟨#[]⟩, .bool false, .slice none 0 0, .slice none 0 0] 38 := by rw [← hWb]; exact haa.alloc _
  have hbb : Blk Wb Wa.heap.size #[.int .i64 0, .bool false, .bool false, .int .i64 0, .int .i64 0, .string ⟨#[]⟩, .string ⟨#[]⟩, .int .i64 0, .slice none 0 0, .slice none 0 0, .string ⟨#[]⟩, .bool false, .int .i64 0, .bool false, .string ⟨#[]⟩, .string ⟨#[]⟩, .int .i64 0, .bool false, .slice none 0 0, .bool false, .bool false, .string ⟨#[]⟩, .string ⟨#[]⟩, .bool false, .slice none 0 0, .slice none 0 0] 45 := by rw [← hWb]; exact Blk.new _ _ _
  have bb : Below w1.heap.size w1 Wb := by rw [← hWb]; exact ba.alloc ba.size _
  have gab : w1.heap.size < Wa.heap.size := haa.lt
  obtain ⟨Wc, hWc⟩ : ∃ Wc, Wb.setRow w1.heap.size (pkA .u8 q m1) = Wc := ⟨_, rfl⟩
  have hac : Blk Wc w1.heap.size (pkA .u8 q m1) 38 := by rw [← hWc]; exact hab.row _
  have hbc : Blk Wc Wa.heap.size #[.int .i64 0, .bool false, .bool false, .int .i64 0, .int .i64 0, .string ⟨#[]⟩, .string ⟨#[]⟩, .int .i64 0, .slice none 0 0, .slice none 0 0, .string ⟨#[]⟩, .bool false, .int .i64 0, .bool false, .string ⟨#[]⟩, .string ⟨#[]⟩, .int .i64 0, .bool false, .slice none 0 0, .bool false, .bool false, .string ⟨#[]⟩, .string ⟨#[]⟩, .bool false, .slice none 0 0, .slice none 0 0] 45 := by rw [← hWc]; exact hbb.row_ (by omega) _
  have bc : Below w1.heap.size w1 Wc := by rw [← hWc]; exact below_setRow bb (by omega) _
  obtain ⟨Wd, hWd⟩ : ∃ Wd, Wc.setRow Wa.heap.size (pkA .i64 q m2) = Wd := ⟨_, rfl⟩
  have had : Blk Wd w1.heap.size (pkA .u8 q m1) 38 := by rw [← hWd]; exact hac.row_ (by omega) _
  have bd : Below w1.heap.size w1 Wd := by rw [← hWd]; exact below_setRow bc (by omega) _
  have HAB := Lib.hid hab
  have HBC := Lib.hid hbc
  have HAD := Lib.hid had
  have HBC0 : Hid (Blk (Wb.setRow w1.heap.size (pkA .u8 q m1)) Wa.heap.size #[.int .i64 0, .bool false, .bool false, .int .i64 0, .int .i64 0, .string ⟨#[]⟩, .string ⟨#[]⟩, .int .i64 0, .slice none 0 0, .slice none 0 0, .string ⟨#[]⟩, .bool false, .int .i64 0, .bool false, .string ⟨#[]⟩, .string ⟨#[]⟩, .int .i64 0, .bool false, .slice none 0 0, .bool false, .bool false, .string ⟨#[]⟩, .string ⟨#[]⟩, .bool false, .slice none 0 0, .slice none 0 0] 45) := Lib.hid (by rw [hWc]; exact hbc)
  have HAD0 : Hid (Blk ((Wb.setRow w1.heap.size (pkA .u8 q m1)).setRow Wa.heap.size (pkA .i64 q m2)) w1.heap.size (pkA .u8 q m1) 38) := Lib.hid (by rw [hWc, hWd]; exact had)
  have B2 := Lib.hid (B1.out.trans ((b2.mono B1.out.size).trans (bd.mono (Nat.le_trans B1.out.size b2.size))))
  have HTd := Lib.hid ((HT.out.below b2).below bd)
  have HP1 := P1.below bd
  have hcb := pkC_bd q
  obtain ⟨cd, hcd⟩ : ∃ c, pkC q = c := ⟨_, rfl⟩
  obtain ⟨s, hs⟩ : ∃ s, pkS q = s := ⟨_, rfl⟩
  have CA : ∀ (X : World), PkIn .u8 X q m1 → Tabs X → Calls Tryd.prog 9 #[.agg (pkA .u8 q m1)] X fun e w' => e = .returned (.tuple #[.string s, .int .u8 cd]) ∧ Below X.heap.size X w' := fun X h1 h2 => by rw [← hs, ← hcd]; exact wput_any q m1 X h1 h2
  have CA := Lib.hid (CA _ HP1 HTd.out)
  have HCD := Lib.hid hcd
  have HS := Lib.hid hs
  clear haa ba hab hbb bb gab hac hbc bc had bd b2 P1 P2 HP1 hq hs hcd HT HB C0 hW hcb
  go_wp2_with (first | (refine wpList_store_rowTo rfl 38 (.tmp 5) (.tmp 15) rfl rfl w1.heap.size (pkA .u8 q m1) rfl rfl 38 #[.int .i64 0, .bool false, .bool false, .int .i64 0, .int .i64 0, .string ⟨#[]⟩, .string ⟨#[]⟩, .int .u8 0, .slice none 0 0, .slice none 0 0, .string ⟨#[]⟩, .bool false, .int .i64 0, .bool false, .string ⟨#[]⟩, .string ⟨#[]⟩, .int .i64 0, .bool false, .slice none 0 0, .bool false, .bool false, .string ⟨#[]⟩, .string ⟨#[]⟩, .bool false, .slice none 0 0, .slice none 0 0] HAB.out ppk_size rfl (pkA_oneP _ _ _) ?_) | (refine wpList_store_rowTo rfl 45 (.tmp 6) (.tmp 16) rfl rfl Wa.heap.size (pkA .i64 q m2) rfl rfl 45 #[.int .i64 0, .bool false, .bool false, .int .i64 0, .int .i64 0, .string ⟨#[]⟩, .string ⟨#[]⟩, .int .i64 0, .slice none 0 0, .slice none 0 0, .string ⟨#[]⟩, .bool false, .int .i64 0, .bool false, .string ⟨#[]⟩, .string ⟨#[]⟩, .int .i64 0, .bool false, .slice none 0 0, .bool false, .bool false, .string ⟨#[]⟩, .string ⟨#[]⟩, .bool false, .slice none 0 0, .slice none 0 0] HBC.out rpk_size' rfl (pkA_oneP _ _ _) ?_) | (refine wpList_store_rowTo rfl 45 (.tmp 6) (.tmp 16) rfl rfl Wa.heap.size (pkA .i64 q m2) rfl rfl 45 #[.int .i64 0, .bool false, .bool false, .int .i64 0, .int .i64 0, .string ⟨#[]⟩, .string ⟨#[]⟩, .int .i64 0, .slice none 0 0, .slice none 0 0, .string ⟨#[]⟩, .bool false, .int .i64 0, .bool false, .string ⟨#[]⟩, .string ⟨#[]⟩, .int .i64 0, .bool false, .slice none 0 0, .bool false, .bool false, .string ⟨#[]⟩, .string ⟨#[]⟩, .bool false, .slice none 0 0, .slice none 0 0] HBC0.out rpk_size' rfl (pkA_oneP _ _ _) ?_) | (refine wpList_load_row rfl 38 (.tmp 5) rfl w1.heap.size rfl 38 (pkA .u8 q m1) (0, 0) _ HAD.out Tryd.underlying38 rfl ppk_size ?_) | (refine wpList_load_row rfl 38 (.tmp 5) rfl w1.heap.size rfl 38 (pkA .u8 q m1) (0, 0) _ HAD0.out Tryd.underlying38 rfl ppk_size ?_) | (fail))
  refine CA.out.mono ?_
  rintro e w2 ⟨rfl, b3⟩
  have B3 := Lib.hid (B2.out.trans (b3.mono B2.out.size))
  have HTe := Lib.hid (HTd.out.below b3)
  have HAE := Lib.hid (HAD.out.of_below b3)
  clear b3 HAB HBC HAD HBC0 HAD0 HTd CA
  clear hWa hWb hWc hWd
  by_cases h0 : cd = 0
  · subst h0
    have hsz : s.size ≤ 70000 ∧ 1 ≤ s.size := by rw [← HS.out]; exact pkS_bd HCD.out
    obtain ⟨hs2, hs1⟩ := hsz
    have hse : s.toList.isEmpty = false := toList_ne hs1
    have hse2 : (s.toList == []) = false := by rw [beq_eq_false_iff_ne]; intro c; rw [c] at hse; cases hse
    obtain ⟨k1, k2, _, _⟩ := pk_zero HCD.out
    have hb0 := (pk_shp HCD.out).b0
    have hh := pk_hd1 HCD.out
    have f0 := hh.f1
    have f1 := hh.f2
    rw [HS.out] at hb0
    obtain ⟨kd, hkd⟩ : ∃ x, q.kind = x := ⟨_, rfl⟩
    obtain ⟨pf, hpf⟩ : ∃ x, pFlags q = x := ⟨_, rfl⟩
    rw [hkd] at k1 k2 hb0
    rw [hpf] at f0 f1 hb0
    clear hh
    go_wp2_with fail
    refine (lwakes_any _ HTe.out).mono ?_
    rintro e w4 ⟨rfl, b4⟩
    have B4 := Lib.hid (B3.out.trans (b4.mono B3.out.size))
    have HTf := Lib.hid (HTe.out.below b4)
    have HAF := Lib.hid (HAE.out.of_below b4)
    clear b4
    have x0 := HAF.out.cell 0
    rw [pkA_kind, hkd] at x0
    by_cases h3 : kd = 3
    · subst h3
      go_wp2_with fail
      refine (lwakes_any _ HTf.out).mono ?_
      rintro e w5 ⟨rfl, b5⟩
      have B5 := Lib.hid (B4.out.trans (b5.mono B4.out.size))
      clear b5
      go_wp2
      go_ret
      exact ⟨rfl, B5.out⟩
    · have hk3 : (kd == 3) = false := beq_eq_false_iff_ne.2 h3
      obtain ⟨f, hf⟩ : ∃ f, fl % 16 = f := ⟨_, rfl⟩
      obtain ⟨b, hb⟩ : ∃ b, bt s 0 = b := ⟨_, rfl⟩
      have hbt := get_bt s
      obtain ⟨x, hx⟩ : ∃ x, 16 * kd + f = x := ⟨_, rfl⟩
      have o1 : bits .and .u8 b 240 = 16 * kd := by rw [and_240 (by omega) (by omega)]; omega
      have o2 : bits .and .u8 fl 15 = f := by rw [and_15 (by omega) (by omega)]; exact hf
      have o3 : bits .or .u8 (16 * kd) f = x := by rw [or_16 (by omega) (by omega) (by omega) (by omega)]; exact hx
      obtain ⟨t, ht⟩ : ∃ t, (⟨#[UInt8.ofNat x.toNat]⟩ : ByteArray) ++ s.extract 1 s.size = t := ⟨_, rfl⟩
      have hts : t.size ≤ 140737488351232 := by rw [← ht, ByteArray.size_append, ByteArray.size_extract]; show 1 + _ ≤ _; omega
      obtain ⟨⟨r, c⟩, hg⟩ : ∃ y, pkGet t = y := ⟨_, rfl⟩
      have HC : Hid ((c == 129) = !(t.toList == s.toList)) := Lib.hid (by
        by_cases hfe : f = pf
        · have e : t = s := by
            rw [← ht, ← hx, hfe, ← hb0]
            exact head_rest hs1
          have h1 := fwd_pk HCD.out
          rw [HS.out, ← e, hg] at h1
          injection h1 with _ h2
          subst h2
          rw [e]
          simp
        · have hbx : bt t 0 = 16 * kd + f := by rw [← ht, bt_head x (by omega) (by omega), hx]
          have h1 := pk_flags HCD.out (s := t) (f := f) (by rw [hkd]; exact h3) (by omega) (by omega) (by rw [hpf]; exact hfe) (by rw [← ht, ByteArray.size_append]; show 1 + _ ≠ 0; omega) (by rw [hkd]; exact hbx)
          rw [hg] at h1
          injection h1 with _ h2
          subst h2
          have hne : t ≠ s := by
            intro e
            rw [e] at hbx
            omega
          have : (t.toList == s.toList) = false := by
            rw [beq_eq_false_iff_ne]
            intro e
            exact hne (bytes_inj e)
          rw [this]
          rfl)
      have CG : ∀ (X : World), Tabs X → Calls Tryd.prog 12 #[.string t] X (GotPost X r c) := fun X h => by have := pkget_any t X hts h; rw [hg] at this; exact this
      have CG := Lib.hid CG
      obtain ⟨U, hU⟩ : ∃ U, w4.drew.alloc (.cells #[.int .u8 x] 5) = U := ⟨_, rfl⟩
      have bu : Below w4.heap.size w4 U := by rw [← hU]; exact ((Below.refl _ _).drew).alloc (Nat.le_refl _) _
      have BU := Lib.hid (B4.out.trans (bu.mono B4.out.size))
      have HTg := Lib.hid (HTf.out.below bu)
      have CS := run_string_one (P := Tryd.prog) (w := w4.drew) 22 9 5 x (by kernel_rfl) (by kernel_rfl) (by kernel_rfl)
      rw [hU, show w4.drew.heap.size = w4.heap.size from rfl] at CS
      have hi0 : 0 < s.size := by omega
      have hi1 : (0 : Int) < (s.size : Int) := by omega
      have hi2 : (1 : Int) ≤ (s.size : Int) := by omega
      clear bu hg hts hf hx hb0 h3 HCD HS hkd hpf HAF HAE k1 k2 f0 f1
      go_wp2_with fail
      go_region
      go_wp2_with fail
      refine (CG.out _ HTg.out).mono ?_
      rintro e V6 ⟨m5, rfl, ho, bv⟩
      obtain ⟨Y6, hY6⟩ : ∃ Y6, V6.alloc (.cells #[.int .i64 0, .bool false, .bool false, .int .i64 0, .int .i64 0, .string ⟨#[]⟩, .string ⟨#[]⟩, .int .u8 0, .slice none 0 0, .slice none 0 0, .string ⟨#[]⟩, .bool false, .int .i64 0, .bool false, .string ⟨#[]⟩, .string ⟨#[]⟩, .int .i64 0, .bool false, .slice none 0 0, .bool false, .bool false, .string ⟨#[]⟩, .string ⟨#[]⟩, .bool false, .slice none 0 0, .slice none 0 0] 38) = Y6 := ⟨_, rfl⟩
      have hy : Blk Y6 V6.heap.size #[.int .i64 0, .bool false, .bool false, .int .i64 0, .int .i64 0, .string ⟨#[]⟩, .string ⟨#[]⟩, .int .u8 0, .slice none 0 0, .slice none 0 0, .string ⟨#[]⟩, .bool false, .int .i64 0, .bool false, .string ⟨#[]⟩, .string ⟨#[]⟩, .int .i64 0, .bool false, .slice none 0 0, .bool false, .bool false, .string ⟨#[]⟩, .string ⟨#[]⟩, .bool false, .slice none 0 0, .slice none 0 0] 38 := by rw [← hY6]; exact Blk.new _ _ _
      have by_ : Below V6.heap.size V6 Y6 := by rw [← hY6]; exact (Below.refl _ _).alloc (Nat.le_refl _) _
      obtain ⟨Z6, hZ6⟩ : ∃ Z6, Y6.setRow V6.heap.size (pkA .u8 r m5) = Z6 := ⟨_, rfl⟩
      have hz : Blk Z6 V6.heap.size (pkA .u8 r m5) 38 := by rw [← hZ6]; exact hy.row _
      have bz : Below V6.heap.size V6 Z6 := by rw [← hZ6]; exact below_setRow by_ (Nat.le_refl _) _
      have HY6 := Lib.hid hy
      have HZ6 := Lib.hid hz
      have HW6 : Hid (Blk (Y6.setRow V6.heap.size (pkA .u8 r m5)) V6.heap.size (pkA .u8 r m5) 38) := Lib.hid (by rw [hZ6]; exact hz)
      have B6 := Lib.hid (BU.out.trans ((bv.trans (bz.mono bv.size)).mono BU.out.size))
      have HTh := Lib.hid ((HTg.out.below bv).below bz)
      clear ho bv hy by_ hz bz
      have hc := HC.out
      cases hts : (t.toList == s.toList)
      all_goals
        rw [hts] at hc
        simp only [Bool.not_false, Bool.not_true] at hc
        go_wp2_with (first | (refine wpList_store_rowTo rfl 38 (.tmp 10) (.tmp 52) rfl rfl V6.heap.size (pkA .u8 r m5) rfl rfl 38 #[.int .i64 0, .bool false, .bool false, .int .i64 0, .int .i64 0, .string ⟨#[]⟩, .string ⟨#[]⟩, .int .u8 0, .slice none 0 0, .slice none 0 0, .string ⟨#[]⟩, .bool false, .int .i64 0, .bool false, .string ⟨#[]⟩, .string ⟨#[]⟩, .int .i64 0, .bool false, .slice none 0 0, .bool false, .bool false, .string ⟨#[]⟩, .string ⟨#[]⟩, .bool false, .slice none 0 0, .slice none 0 0] HY6.out ppk_size rfl (pkA_oneP _ _ _) ?_) | (fail))
        go_ret
        exact ⟨rfl, B6.out⟩
  · obtain rfl : s = ⟨#[]⟩ := by rw [← HS.out]; unfold pkS; rw [if_neg (by rw [HCD.out]; exact h0)]
    have e0 : (cd == 0) = false := beq_eq_false_iff_ne.2 h0
    have e1 : (cd != 0) = true := by rw [bne, e0]; rfl
    clear h0 HS HCD
    go_wp2_with fail
    refine (lwakes_any _ HTe.out).mono ?_
    rintro e w4 ⟨rfl, b4⟩
    have B4 := Lib.hid (B3.out.trans (b4.mono B3.out.size))
    have HTf := Lib.hid (HTe.out.below b4)
    clear b4
    go_wp2_with fail
    refine (lwakes_any _ HTf.out).mono ?_
    rintro e w5 ⟨rfl, b5⟩
    have B5 := Lib.hid (B4.out.trans (b5.mono B4.out.size))
    have HTg := Lib.hid (HTf.out.below b5)
    clear b5
    go_wp2
    go_ret
    exact ⟨rfl, B5.out⟩
theorem packetFlags_walk (v : Value) (x : PkX) (fl : Int) (hw : (Lit.int .u8 fl).wf = true) (w : World) (h : PkOk w v x) (u : bulkPx x ≤ 1048576) (hT : Tabs w) :
    Calls Tryd.prog 7 #[v, .int .u8 fl] w fun e w' => e = .returned (.bool true) ∧ Below w.heap.size w w' := by
  obtain ⟨rfl, hP, hC⟩ := h u
  exact pflags5_core x.p x.m fl w hP hC (u8_bd hw) hT
end Go.Proofs.YtlnanenfpapfkaaDoor
