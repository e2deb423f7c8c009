/- VarintOrders: the law's walk. -/
import Derived.Test.YtoojgcblgmipeaaVarPut
import Derived.Test.YtoojgcblgmipeaaOrdersPlain
namespace Go.Proofs.Ytoojgcblgmipeaa
open Go.RowKit Pl
theorem putC_ok' {n : Int} (h0 : 0 ≤ n) (h1 : n ≤ 268435455) : putC n = 0 := by unfold putC; rw [if_neg (by omega)]

/-- A number as the law takes it. -/
def cutN (n : Int) : Int := if n ≤ 0 then 0 else n % 268435456
theorem cutN_bd (n : Int) : 0 ≤ cutN n ∧ cutN n ≤ 268435455 := by unfold cutN; split <;> omega

set_option maxHeartbeats 1600000 in
theorem varintOrders_walk (a : Int) (ha : (Lit.int .i64 a).wf = true) (b : Int) (hb : (Lit.int .i64 b).wf = true) (w : World) :
    Calls Try.prog 7 #[.int .i64 a, .int .i64 b] w fun e w' => e = .returned (.bool true) ∧ Below w.heap.size w w' := by
  have hba := i64_bd ha
  have hbb := i64_bd hb
  by_cases pa : 0 < a
  · skip
    by_cases pb : 0 < b
    · skip
      obtain ⟨P, hP⟩ : ∃ P, a % 268435456 = P := ⟨_, rfl⟩
      have P0 : 0 ≤ P := by omega
      have P1 : P ≤ 268435455 := by omega
      obtain ⟨R, hR⟩ : ∃ R, b % 268435456 = R := ⟨_, rfl⟩
      have R0 : 0 ≤ R := by omega
      have R1 : R ≤ 268435455 := by omega
      by_cases hgt : R < P
      · have hle : R ≤ P := by omega
        have X0 : (0 : Int) ≤ R := by omega
        have Y1 : (P : Int) ≤ 268435455 := by omega
        have cX : putC R = 0 := putC_ok' X0 (by omega)
        have cY : putC P = 0 := putC_ok' (by omega) Y1
        have hm := sz_mono X0 hle Y1
        have hfin := Lib.hid (orders_fin X0 hle Y1)
        have hl1 := (sz_pos X0 (by omega)).1
        have hl : ((enc R).length : Int) = sz R := by rw [enc_length]; omega
        have hl' : ((enc P).length : Int) = sz P := by rw [enc_length]; omega
        have hne : (sz R == 0) = false := by rw [beq_eq_false_iff_ne]; omega
        go_enter Try.func7, Try.ntmps7
        go_wp2_with fail
        refine (put_all _ _).mono ?_
        rintro e w1 ⟨rfl, b1⟩
        go_wp2_with fail
        refine (put_all _ _).mono ?_
        rintro e w2 ⟨rfl, b2⟩
        go_wp2_with fail
        refine (size_any _ _).mono ?_
        rintro e w2 ⟨rfl, rfl⟩
        go_wp2_with fail
        refine (size_any _ _).mono ?_
        rintro e w2 ⟨rfl, rfl⟩
        go_wp2
        all_goals go_ret
        all_goals first | exact ⟨rfl, b1.trans (b2.mono b1.size)⟩ | exact ⟨ret_bool hfin.out, b1.trans (b2.mono b1.size)⟩
      · replace hgt : P ≤ R := by omega
        have hle : P ≤ R := hgt
        have X0 : (0 : Int) ≤ P := by omega
        have Y1 : (R : Int) ≤ 268435455 := by omega
        have cX : putC P = 0 := putC_ok' X0 (by omega)
        have cY : putC R = 0 := putC_ok' (by omega) Y1
        have hm := sz_mono X0 hle Y1
        have hfin := Lib.hid (orders_fin X0 hle Y1)
        have hl1 := (sz_pos X0 (by omega)).1
        have hl : ((enc P).length : Int) = sz P := by rw [enc_length]; omega
        have hl' : ((enc R).length : Int) = sz R := by rw [enc_length]; omega
        have hne : (sz P == 0) = false := by rw [beq_eq_false_iff_ne]; omega
        go_enter Try.func7, Try.ntmps7
        go_wp2_with fail
        refine (put_all _ _).mono ?_
        rintro e w1 ⟨rfl, b1⟩
        go_wp2_with fail
        refine (put_all _ _).mono ?_
        rintro e w2 ⟨rfl, b2⟩
        go_wp2_with fail
        refine (size_any _ _).mono ?_
        rintro e w2 ⟨rfl, rfl⟩
        go_wp2_with fail
        refine (size_any _ _).mono ?_
        rintro e w2 ⟨rfl, rfl⟩
        go_wp2
        all_goals go_ret
        all_goals first | exact ⟨rfl, b1.trans (b2.mono b1.size)⟩ | exact ⟨ret_bool hfin.out, b1.trans (b2.mono b1.size)⟩
    · replace pb : b ≤ 0 := by omega
      obtain ⟨P, hP⟩ : ∃ P, a % 268435456 = P := ⟨_, rfl⟩
      have P0 : 0 ≤ P := by omega
      have P1 : P ≤ 268435455 := by omega
      by_cases hgt : 0 < P
      · have hle : 0 ≤ P := by omega
        have X0 : (0 : Int) ≤ 0 := by omega
        have Y1 : (P : Int) ≤ 268435455 := by omega
        have cX : putC 0 = 0 := putC_ok' X0 (by omega)
        have cY : putC P = 0 := putC_ok' (by omega) Y1
        have hm := sz_mono X0 hle Y1
        have hfin := Lib.hid (orders_fin X0 hle Y1)
        have hl1 := (sz_pos X0 (by omega)).1
        have hl : ((enc 0).length : Int) = sz 0 := by rw [enc_length]; omega
        have hl' : ((enc P).length : Int) = sz P := by rw [enc_length]; omega
        have hne : (sz 0 == 0) = false := by rw [beq_eq_false_iff_ne]; omega
        go_enter Try.func7, Try.ntmps7
        go_wp2_with fail
        refine (put_all _ _).mono ?_
        rintro e w1 ⟨rfl, b1⟩
        go_wp2_with fail
        refine (put_all _ _).mono ?_
        rintro e w2 ⟨rfl, b2⟩
        go_wp2_with fail
        refine (size_any _ _).mono ?_
        rintro e w2 ⟨rfl, rfl⟩
        go_wp2_with fail
        refine (size_any _ _).mono ?_
        rintro e w2 ⟨rfl, rfl⟩
        go_wp2
        all_goals go_ret
        all_goals first | exact ⟨rfl, b1.trans (b2.mono b1.size)⟩ | exact ⟨ret_bool hfin.out, b1.trans (b2.mono b1.size)⟩
      · replace hgt : P ≤ 0 := by omega
        have hle : P ≤ 0 := hgt
        have X0 : (0 : Int) ≤ P := by omega
        have Y1 : (0 : Int) ≤ 268435455 := by omega
        have cX : putC P = 0 := putC_ok' X0 (by omega)
        have cY : putC 0 = 0 := putC_ok' (by omega) Y1
        have hm := sz_mono X0 hle Y1
        have hfin := Lib.hid (orders_fin X0 hle Y1)
        have hl1 := (sz_pos X0 (by omega)).1
        have hl : ((enc P).length : Int) = sz P := by rw [enc_length]; omega
        have hl' : ((enc 0).length : Int) = sz 0 := by rw [enc_length]; omega
        have hne : (sz P == 0) = false := by rw [beq_eq_false_iff_ne]; omega
        go_enter Try.func7, Try.ntmps7
        go_wp2_with fail
        refine (put_all _ _).mono ?_
        rintro e w1 ⟨rfl, b1⟩
        go_wp2_with fail
        refine (put_all _ _).mono ?_
        rintro e w2 ⟨rfl, b2⟩
        go_wp2_with fail
        refine (size_any _ _).mono ?_
        rintro e w2 ⟨rfl, rfl⟩
        go_wp2_with fail
        refine (size_any _ _).mono ?_
        rintro e w2 ⟨rfl, rfl⟩
        go_wp2
        all_goals go_ret
        all_goals first | exact ⟨rfl, b1.trans (b2.mono b1.size)⟩ | exact ⟨ret_bool hfin.out, b1.trans (b2.mono b1.size)⟩
  · replace pa : a ≤ 0 := by omega
    by_cases pb : 0 < b
    · skip
      obtain ⟨R, hR⟩ : ∃ R, b % 268435456 = R := ⟨_, rfl⟩
      have R0 : 0 ≤ R := by omega
      have R1 : R ≤ 268435455 := by omega
      by_cases hgt : R < 0
      · exfalso; omega
      · replace hgt : 0 ≤ R := by omega
        have hle : 0 ≤ R := hgt
        have X0 : (0 : Int) ≤ 0 := by omega
        have Y1 : (R : Int) ≤ 268435455 := by omega
        have cX : putC 0 = 0 := putC_ok' X0 (by omega)
        have cY : putC R = 0 := putC_ok' (by omega) Y1
        have hm := sz_mono X0 hle Y1
        have hfin := Lib.hid (orders_fin X0 hle Y1)
        have hl1 := (sz_pos X0 (by omega)).1
        have hl : ((enc 0).length : Int) = sz 0 := by rw [enc_length]; omega
        have hl' : ((enc R).length : Int) = sz R := by rw [enc_length]; omega
        have hne : (sz 0 == 0) = false := by rw [beq_eq_false_iff_ne]; omega
        go_enter Try.func7, Try.ntmps7
        go_wp2_with fail
        refine (put_all _ _).mono ?_
        rintro e w1 ⟨rfl, b1⟩
        go_wp2_with fail
        refine (put_all _ _).mono ?_
        rintro e w2 ⟨rfl, b2⟩
        go_wp2_with fail
        refine (size_any _ _).mono ?_
        rintro e w2 ⟨rfl, rfl⟩
        go_wp2_with fail
        refine (size_any _ _).mono ?_
        rintro e w2 ⟨rfl, rfl⟩
        go_wp2
        all_goals go_ret
        all_goals first | exact ⟨rfl, b1.trans (b2.mono b1.size)⟩ | exact ⟨ret_bool hfin.out, b1.trans (b2.mono b1.size)⟩
    · replace pb : b ≤ 0 := by omega
      · have hle : (0 : Int) ≤ 0 := by omega
        have X0 : (0 : Int) ≤ 0 := by omega
        have Y1 : (0 : Int) ≤ 268435455 := by omega
        have cX : putC 0 = 0 := putC_ok' X0 (by omega)
        have cY : putC 0 = 0 := putC_ok' (by omega) Y1
        have hm := sz_mono X0 hle Y1
        have hfin := Lib.hid (orders_fin X0 hle Y1)
        have hl1 := (sz_pos X0 (by omega)).1
        have hl : ((enc 0).length : Int) = sz 0 := by rw [enc_length]; omega
        have hl' : ((enc 0).length : Int) = sz 0 := by rw [enc_length]; omega
        have hne : (sz 0 == 0) = false := by rw [beq_eq_false_iff_ne]; omega
        go_enter Try.func7, Try.ntmps7
        go_wp2_with fail
        refine (put_all _ _).mono ?_
        rintro e w1 ⟨rfl, b1⟩
        go_wp2_with fail
        refine (put_all _ _).mono ?_
        rintro e w2 ⟨rfl, b2⟩
        go_wp2_with fail
        refine (size_any _ _).mono ?_
        rintro e w2 ⟨rfl, rfl⟩
        go_wp2_with fail
        refine (size_any _ _).mono ?_
        rintro e w2 ⟨rfl, rfl⟩
        go_wp2
        all_goals go_ret
        all_goals first | exact ⟨rfl, b1.trans (b2.mono b1.size)⟩ | exact ⟨ret_bool hfin.out, b1.trans (b2.mono b1.size)⟩
end Go.Proofs.Ytoojgcblgmipeaa
