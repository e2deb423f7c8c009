/- PacketTwice: the law's walk. -/
import Derived.Test.YtlnanenfpapfkaaDoorH5P26
set_option linter.unusedVariables false
namespace Go.Proofs.YtlnanenfpapfkaaDoor
open Go.RowKit Pl Go.Shelf Go.PlainAid

theorem pkA_id (k : IntKind) (p : Pk) (m : Hs) : (pkA k p m)[4]? = some (.int .i64 p.id) := rfl
theorem pkA_topic (k : IntKind) (p : Pk) (m : Hs) : (pkA k p m)[5]? = some (.string p.topic) := rfl
theorem pkA_payload (k : IntKind) (p : Pk) (m : Hs) : (pkA k p m)[6]? = some (.string p.payload) := rfl
theorem pkA_code (k : IntKind) (p : Pk) (m : Hs) : (pkA k p m)[7]? = some (.int k p.code) := rfl
theorem pkA_ps (k : IntKind) (p : Pk) (m : Hs) : (pkA k p m)[9]? = some (.slice m.p.A m.p.n m.p.cap) := rfl
set_option maxRecDepth 100000 in
set_option maxHeartbeats 4000000 in
theorem ptwice5_core (s : ByteArray) (hsz : s.size ≤ 140737488351232) (w : World) (hT : Tabs w) :
    Calls Tryd.prog 5 #[.string s] w fun e w' => e = .returned (.bool true) ∧ Below w.heap.size w w' := by
  obtain ⟨⟨r, c⟩, hg⟩ : ∃ x, pkGet s = x := ⟨_, rfl⟩
  have CG : ∀ (X : World), Tabs X → Calls Tryd.prog 12 #[.string s] X (GotPost X r c) := fun X h => by have := pkget_any s X hsz h; rw [hg] at this; exact this
  have CG := Lib.hid CG
  have HG := Lib.hid hg
  have B3 : Hid (Below w.heap.size w w) := Lib.hid (Below.refl _ _)
  have HTe := Lib.hid hT
  clear hg hT
  go_enter Tryd.func5, Tryd.ntmps5
  go_wp2_with fail
  refine (CG.out _ HTe.out).mono ?_
  rintro e V4 ⟨m0, rfl, ho, bv⟩
  obtain ⟨Y4, hY4⟩ : ∃ Y4, V4.alloc (.cells #[.int .i64 0, .bool false, .bool false, .int .i64 0, .int .i64 0, .string ⟨#[]⟩, .string ⟨#[]⟩, .int .u8 0, .slice none 0 0, .slice none 0 0, .string ⟨#[]⟩, .bool false, .int .i64 0, .bool false, .string ⟨#[]⟩, .string ⟨#[]⟩, .int .i64 0, .bool false, .slice none 0 0, .bool false, .bool false, .string ⟨#[]⟩, .string ⟨#[]⟩, .bool false, .slice none 0 0, .slice none 0 0] 38) = Y4 := ⟨_, rfl⟩
  have hy : Blk Y4 V4.heap.size #[.int .i64 0, .bool false, .bool false, .int .i64 0, .int .i64 0, .string ⟨#[]⟩, .string ⟨#[]⟩, .int .u8 0, .slice none 0 0, .slice none 0 0, .string ⟨#[]⟩, .bool false, .int .i64 0, .bool false, .string ⟨#[]⟩, .string ⟨#[]⟩, .int .i64 0, .bool false, .slice none 0 0, .bool false, .bool false, .string ⟨#[]⟩, .string ⟨#[]⟩, .bool false, .slice none 0 0, .slice none 0 0] 38 := by rw [← hY4]; exact Blk.new _ _ _
  have by_ : Below V4.heap.size V4 Y4 := by rw [← hY4]; exact (Below.refl _ _).alloc (Nat.le_refl _) _
  obtain ⟨Z4, hZ4⟩ : ∃ Z4, Y4.setRow V4.heap.size (pkA .u8 r m0) = Z4 := ⟨_, rfl⟩
  have hz : Blk Z4 V4.heap.size (pkA .u8 r m0) 38 := by rw [← hZ4]; exact hy.row _
  have bz : Below V4.heap.size V4 Z4 := by rw [← hZ4]; exact below_setRow by_ (Nat.le_refl _) _
  have HY4 := Lib.hid hy
  have HZ4 := Lib.hid hz
  have HW4 : Hid (Blk (Y4.setRow V4.heap.size (pkA .u8 r m0)) V4.heap.size (pkA .u8 r m0) 38) := Lib.hid (by rw [hZ4]; exact hz)
  have B4 := Lib.hid (B3.out.trans ((bv.trans (bz.mono bv.size)).mono B3.out.size))
  have HTf := Lib.hid ((HTe.out.below bv).below bz)
  by_cases h0 : c = 0
  · subst h0
    obtain ⟨w1, w2, w3⟩ := bwd_pk HG.out
    have hpk := cn_pk w1
    have hf := fwd_pk w1
    have hb := pkS_bd w1
    obtain ⟨r2, hr2⟩ : ∃ x, cn r = x := ⟨_, rfl⟩
    obtain ⟨t, ht⟩ : ∃ x, pkS r = x := ⟨_, rfl⟩
    rw [hr2, ht] at hpk
    rw [hr2, ht] at hf
    rw [ht] at hb w2
    rw [hr2] at w3
    have hfit : r.fits := by have := get_fits s; rw [HG.out] at this; exact this
    have hfit2 : r2.fits := by have := get_fits t; rw [hf] at this; exact this
    have CG2 : ∀ (X : World), Tabs X → Calls Tryd.prog 12 #[.string t] X (GotPost X r2 0) := fun X h => by have := pkget_any t X (by omega) h; rw [hf] at this; exact this
    have CB : ∀ (X : World) (m : Hs), PkIn .u8 X r m → Tabs X → Calls Tryd.prog 9 #[.agg (pkA .u8 r m)] X fun e w' => e = .returned (.tuple #[.string t, .int .u8 0]) ∧ Below X.heap.size X w' := fun X m h1 h2 => by
      have := wput_any r m X h1 h2
      unfold PkPut at this
      rw [w1, ht] at this
      exact this
    have CB2 : ∀ (X : World) (m : Hs), PkIn .u8 X r2 m → Tabs X → Calls Tryd.prog 9 #[.agg (pkA .u8 r2 m)] X fun e w' => e = .returned (.tuple #[.string t, .int .u8 0]) ∧ Below X.heap.size X w' := fun X m h1 h2 => by
      have := wput_any r2 m X h1 h2
      unfold PkPut at this
      rw [hpk.1, hpk.2] at this
      exact this
    have CG2 := Lib.hid CG2
    have CB := Lib.hid CB
    have CB2 := Lib.hid CB2
    have HF := Lib.hid hfit
    have HF2 := Lib.hid hfit2
    have W3 := Lib.hid w3
    have hle : (t.size : Int) ≤ (s.size : Int) := by omega
    have f1 : (t.toList == t.toList) = true := by simp
    have hps := Lib.hid (sl_hd ho.ps).1
    have HPr := Lib.hid ((ho.pkin HF.out).below bz)
    clear w1 w2 w3 hpk hf hb hr2 ht hfit hfit2 HG ho bv hy by_ hz bz CG
    go_wp2_with (first | (refine wpList_store_rowTo rfl 38 (.tmp 3) (.tmp 14) rfl rfl V4.heap.size (pkA .u8 r m0) rfl rfl 38 #[.int .i64 0, .bool false, .bool false, .int .i64 0, .int .i64 0, .string ⟨#[]⟩, .string ⟨#[]⟩, .int .u8 0, .slice none 0 0, .slice none 0 0, .string ⟨#[]⟩, .bool false, .int .i64 0, .bool false, .string ⟨#[]⟩, .string ⟨#[]⟩, .int .i64 0, .bool false, .slice none 0 0, .bool false, .bool false, .string ⟨#[]⟩, .string ⟨#[]⟩, .bool false, .slice none 0 0, .slice none 0 0] HY4.out ppk_size rfl (pkA_oneP _ _ _) ?_) | (fail))
    refine (lwakes_any _ HTf.out).mono ?_
    rintro e w5 ⟨rfl, b5⟩
    have B5 := Lib.hid (B4.out.trans (b5.mono B4.out.size))
    have HTg := Lib.hid (HTf.out.below b5)
    have HQ5 := Lib.hid (HZ4.out.of_below b5)
    have HPr := Lib.hid (HPr.out.below b5)
    clear b5 HZ4 HY4
    go_wp2_with (first | (refine wpList_load_row rfl 38 (.tmp 3) rfl V4.heap.size rfl 38 (pkA .u8 r m0) (0, 0) _ HQ5.out Tryd.underlying38 rfl ppk_size ?_) | (fail))
    refine (CB.out _ _ HPr.out HTg.out).mono ?_
    rintro e w6 ⟨rfl, b6⟩
    have B6 := Lib.hid (B5.out.trans (b6.mono B5.out.size))
    have HTh := Lib.hid (HTg.out.below b6)
    have HQ6 := Lib.hid (HQ5.out.of_below b6)
    clear b6 HQ5 HPr
    go_wp2_with fail
    refine (CG2.out _ HTh.out).mono ?_
    rintro e V7 ⟨m2, rfl, ho, bv⟩
    obtain ⟨Y7, hY7⟩ : ∃ Y7, V7.alloc (.cells #[.int .i64 0, .bool false, .bool false, .int .i64 0, .int .i64 0, .string ⟨#[]⟩, .string ⟨#[]⟩, .int .u8 0, .slice none 0 0, .slice none 0 0, .string ⟨#[]⟩, .bool false, .int .i64 0, .bool false, .string ⟨#[]⟩, .string ⟨#[]⟩, .int .i64 0, .bool false, .slice none 0 0, .bool false, .bool false, .string ⟨#[]⟩, .string ⟨#[]⟩, .bool false, .slice none 0 0, .slice none 0 0] 38) = Y7 := ⟨_, rfl⟩
    have hy : Blk Y7 V7.heap.size #[.int .i64 0, .bool false, .bool false, .int .i64 0, .int .i64 0, .string ⟨#[]⟩, .string ⟨#[]⟩, .int .u8 0, .slice none 0 0, .slice none 0 0, .string ⟨#[]⟩, .bool false, .int .i64 0, .bool false, .string ⟨#[]⟩, .string ⟨#[]⟩, .int .i64 0, .bool false, .slice none 0 0, .bool false, .bool false, .string ⟨#[]⟩, .string ⟨#[]⟩, .bool false, .slice none 0 0, .slice none 0 0] 38 := by rw [← hY7]; exact Blk.new _ _ _
    have by_ : Below V7.heap.size V7 Y7 := by rw [← hY7]; exact (Below.refl _ _).alloc (Nat.le_refl _) _
    obtain ⟨Z7, hZ7⟩ : ∃ Z7, Y7.setRow V7.heap.size (pkA .u8 r2 m2) = Z7 := ⟨_, rfl⟩
    have hz : Blk Z7 V7.heap.size (pkA .u8 r2 m2) 38 := by rw [← hZ7]; exact hy.row _
    have bz : Below V7.heap.size V7 Z7 := by rw [← hZ7]; exact below_setRow by_ (Nat.le_refl _) _
    have HY7 := Lib.hid hy
    have HZ7 := Lib.hid hz
    have HW7 : Hid (Blk (Y7.setRow V7.heap.size (pkA .u8 r2 m2)) V7.heap.size (pkA .u8 r2 m2) 38) := Lib.hid (by rw [hZ7]; exact hz)
    have B7 := Lib.hid (B6.out.trans ((bv.trans (bz.mono bv.size)).mono B6.out.size))
    have HTi := Lib.hid ((HTh.out.below bv).below bz)
    have HQ8 := Lib.hid ((HQ6.out.of_below bv).of_below bz)
    have hps2 := Lib.hid (sl_hd ho.ps).1
    have HPr := Lib.hid ((ho.pkin HF2.out).below bz)
    clear ho bv hy by_ hz bz
    go_wp2_with (first | (refine wpList_store_rowTo rfl 38 (.tmp 7) (.tmp 36) rfl rfl V7.heap.size (pkA .u8 r2 m2) rfl rfl 38 #[.int .i64 0, .bool false, .bool false, .int .i64 0, .int .i64 0, .string ⟨#[]⟩, .string ⟨#[]⟩, .int .u8 0, .slice none 0 0, .slice none 0 0, .string ⟨#[]⟩, .bool false, .int .i64 0, .bool false, .string ⟨#[]⟩, .string ⟨#[]⟩, .int .i64 0, .bool false, .slice none 0 0, .bool false, .bool false, .string ⟨#[]⟩, .string ⟨#[]⟩, .bool false, .slice none 0 0, .slice none 0 0] HY7.out ppk_size rfl (pkA_oneP _ _ _) ?_) | (refine wpList_load_row rfl 38 (.tmp 7) rfl V7.heap.size rfl 38 (pkA .u8 r2 m2) (0, 0) _ HZ7.out Tryd.underlying38 rfl ppk_size ?_) | (refine wpList_load_row rfl 38 (.tmp 7) rfl V7.heap.size rfl 38 (pkA .u8 r2 m2) (0, 0) _ HW7.out Tryd.underlying38 rfl ppk_size ?_) | (fail))
    refine (CB2.out _ _ HPr.out HTi.out).mono ?_
    rintro e w8 ⟨rfl, b8⟩
    obtain ⟨e0, e4, e7, e5, e6, e9⟩ := W3.out
    have x0 := (HZ7.out.of_below b8).cell 0
    have x4 := (HZ7.out.of_below b8).cell 4
    have x5 := (HZ7.out.of_below b8).cell 5
    have x6 := (HZ7.out.of_below b8).cell 6
    have x7 := (HZ7.out.of_below b8).cell 7
    have x9 := (HZ7.out.of_below b8).cell 9
    have y0 := (HQ8.out.of_below b8).cell 0
    have y4 := (HQ8.out.of_below b8).cell 4
    have y5 := (HQ8.out.of_below b8).cell 5
    have y6 := (HQ8.out.of_below b8).cell 6
    have y7 := (HQ8.out.of_below b8).cell 7
    have y9 := (HQ8.out.of_below b8).cell 9
    rw [pkA_kind] at x0 y0
    rw [pkA_id] at x4 y4
    rw [pkA_topic] at x5 y5
    rw [pkA_payload] at x6 y6
    rw [pkA_code] at x7 y7
    rw [pkA_ps] at x9 y9
    rw [← e0] at x0
    rw [← e4] at x4
    rw [← e5] at x5
    rw [← e6] at x6
    rw [← e7] at x7
    have en : m2.p.n = m0.p.n := by rw [← hps2.out, ← hps.out]; exact e9.symm
    rw [en] at x9
    obtain ⟨v0, hv0⟩ : ∃ x, r.kind = x := ⟨_, rfl⟩
    obtain ⟨v4, hv4⟩ : ∃ x, r.id = x := ⟨_, rfl⟩
    obtain ⟨v5, hv5⟩ : ∃ x, r.topic = x := ⟨_, rfl⟩
    obtain ⟨v6, hv6⟩ : ∃ x, r.payload = x := ⟨_, rfl⟩
    obtain ⟨v7, hv7⟩ : ∃ x, r.code = x := ⟨_, rfl⟩
    rw [hv0] at x0 y0
    rw [hv4] at x4 y4
    rw [hv5] at x5 y5
    rw [hv6] at x6 y6
    rw [hv7] at x7 y7
    have f5 : (v5.toList == v5.toList) = true := by simp
    have f6 : (v6.toList == v6.toList) = true := by simp
    have B8 := Lib.hid (B7.out.trans (b8.mono B7.out.size))
    clear b8 HPr HTi HTh HTg HTf HTe HY7 HZ7 HQ8 HQ6 hps hps2 en e0 e4 e5 e6 e7 e9 hv0 hv4 hv5 hv6 hv7 W3
    go_wp2
    go_ret
    exact ⟨rfl, B8.out⟩
  · obtain rfl : r = zPk := by have := get_code (s := s) (by rw [HG.out]; exact h0); rw [HG.out] at this; exact this
    have e0 : (c == 0) = false := beq_eq_false_iff_ne.2 h0
    have e1 : (c != 0) = true := by rw [bne, e0]; rfl
    clear h0 HG ho bv hy by_ hz bz
    go_wp2_with (first | (refine wpList_store_rowTo rfl 38 (.tmp 3) (.tmp 14) rfl rfl V4.heap.size (pkA .u8 zPk m0) rfl rfl 38 #[.int .i64 0, .bool false, .bool false, .int .i64 0, .int .i64 0, .string ⟨#[]⟩, .string ⟨#[]⟩, .int .u8 0, .slice none 0 0, .slice none 0 0, .string ⟨#[]⟩, .bool false, .int .i64 0, .bool false, .string ⟨#[]⟩, .string ⟨#[]⟩, .int .i64 0, .bool false, .slice none 0 0, .bool false, .bool false, .string ⟨#[]⟩, .string ⟨#[]⟩, .bool false, .slice none 0 0, .slice none 0 0] HY4.out ppk_size rfl (pkA_oneP _ _ _) ?_) | (fail))
    refine (lwakes_any _ HTf.out).mono ?_
    rintro e w5 ⟨rfl, b5⟩
    have B5 := Lib.hid (B4.out.trans (b5.mono B4.out.size))
    have HTg := Lib.hid (HTf.out.below b5)
    have HQ5 := Lib.hid (HZ4.out.of_below b5)
    clear b5 HZ4 HY4
    go_wp2_with fail
    refine (lwakes_any _ HTg.out).mono ?_
    rintro e w6 ⟨rfl, b6⟩
    have B6 := Lib.hid (B5.out.trans (b6.mono B5.out.size))
    have x0 := (HQ5.out.of_below b6).cell 0
    rw [pkA_kind] at x0
    have x0 : w6.cell? ⟨V4.heap.size, 0, none⟩ = some (.int .i64 0) := x0
    clear b6 HQ5
    go_wp2
    go_ret
    exact ⟨rfl, B6.out⟩
theorem packetTwice_walk (s : ByteArray) (hs : s.size ≤ 140737488351232) (w : World) (hT : Tabs w) :
    Calls Tryd.prog 5 #[.string s] w fun e w' => e = .returned (.bool true) ∧ Below w.heap.size w w' := ptwice5_core s hs w hT
end Go.Proofs.YtlnanenfpapfkaaDoor
