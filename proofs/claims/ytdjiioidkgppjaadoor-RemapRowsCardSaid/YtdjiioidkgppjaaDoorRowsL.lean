/- RemapRows: the law's walk. -/
import Derived.Test.YtdjiioidkgppjaaDoorRowsP
import Derived.Deep.RegionHeld3
namespace Go.Proofs.YtdjiioidkgppjaaDoor
set_option linter.unusedVariables false
open Go.RowKit Pl Go.Shelf

/-- The tables lie as at the start. -/
def Tb (w X : World) : Prop := Tabs X ∧ Below w.heap.size w X
theorem tb {w X Y : World} (h : Hid (Tb w X)) (hb : Below X.heap.size X Y) : Hid (Tb w Y) := Lib.hid ⟨h.out.1.below hb, h.out.2.trans (hb.mono h.out.2.size)⟩
set_option maxRecDepth 100000 in
set_option maxHeartbeats 4000000 in
theorem rows_core (A : Option Addr) (n cap : Nat) (L : List Rl) (N : ByteArray) (hN : N.size ≤ 140737488351232) (x0 q : Int) (hx0 : -9223372036854775808 ≤ x0 ∧ x0 ≤ 9223372036854775807) (w : World) (hn : L.length = n) (hc : n ≤ cap) (hcm : cap ≤ maxLen) (h : RRow w A L) (hz : ∀ r ∈ L, r.fits) (hA : (A = none ∧ cap = 0) ∨ ∃ a, A = some a) (hT : Tabs w) :
    Calls Tryd.prog 5 #[.slice A n cap, .string N, .agg #[.int .i64 x0, .int .i64 q]] w fun e w' => e = .returned (.bool true) ∧ Below w.heap.size w w' := by
  obtain ⟨M, hM⟩ : ∃ M, min n 20 = M := ⟨_, rfl⟩
  have hM20 : M ≤ 20 := by omega
  have b00 : Below w.heap.size w (w.alloc (.cells #[.int .i64 x0, .int .i64 q] 47)) := (Below.refl _ _).alloc (Nat.le_refl _) _
  have hX0 : (w.alloc (.cells #[.int .i64 x0, .int .i64 q] 47)).cell? ⟨w.heap.size, 0, none⟩ = some (.int .i64 x0) := World.cell?_alloc_at _ _ _ _ rfl
  have hX1 : (w.alloc (.cells #[.int .i64 x0, .int .i64 q] 47)).cell? ⟨w.heap.size, 1, none⟩ = some (.int .i64 q) := World.cell?_alloc_at _ _ _ _ rfl
  have hzW : w.heap.size < (w.alloc (.cells #[.int .i64 x0, .int .i64 q] 47)).heap.size := by simp
  obtain ⟨W, hW⟩ : ∃ W, w.alloc (.cells #[.int .i64 x0, .int .i64 q] 47) = W := ⟨_, rfl⟩
  rw [hW] at b00 hX0 hX1 hzW
  have CP := Lib.hid (rules_any A n cap M L W hn hc hcm (h.below b00) hz hM hA)
  have hl : (L.take M).length = M := by rw [List.length_take]; omega
  have hz2 : ∀ r ∈ L.take M, r.fits := fun r hr => hz r (List.mem_of_mem_take hr)
  obtain ⟨T, hTT⟩ : ∃ T, L.take M = T := ⟨_, rfl⟩
  rw [hTT] at CP hl hz2
  have HL := Lib.hid hl
  have HZ := Lib.hid hz2
  have HT := Lib.hid (hT.below b00)
  have HW := Lib.hid hW
  have B00 := Lib.hid b00
  have HX0 := Lib.hid hX0
  have HX1 := Lib.hid hX1
  obtain ⟨k, hk⟩ : ∃ k : Nat, (max 0 x0).toNat % (M + 1) = k := ⟨_, rfl⟩
  have hkM : k ≤ M := by have := Nat.mod_lt (max 0 x0).toNat (show 0 < M + 1 by omega); omega
  have hkI : (max 0 x0).tmod ((M : Int) + 1) = (k : Int) := by
    have h1 : max 0 x0 = (((max 0 x0).toNat : Nat) : Int) := by omega
    rw [h1, ← hk]
    exact (Int.ofNat_tmod _ _).symm
  have HK := Lib.hid hkI
  clear hn hc hcm h hz hA hM hl hTT hz2 hT hW b00 hX0 hX1 hk hkI
  go_enter Tryd.func5, Tryd.ntmps5
  go_wp2_with fail
  rw [HW.out]
  refine CP.out.mono ?_
  rintro e w1 ⟨v1, v2, rfl, own1, own2, b1⟩
  have x1 := (b1.cell (p := ⟨w.heap.size, 0, none⟩) hzW).trans HX0.out
  have x2 := (b1.cell (p := ⟨w.heap.size, 1, none⟩) hzW).trans HX1.out
  have B1 := Lib.hid (B00.out.trans (b1.mono B00.out.size))
  have hTW1 := HT.out.below b1
  have hz1 : w.heap.size < w1.heap.size := Nat.lt_of_lt_of_le hzW b1.size
  have o1 := own_rrow2 own1 HL.out.symm
  obtain ⟨A2, c2, rfl, _, _⟩ := own_rrow own2 HL.out.symm
  clear own1 own2 b1 HX0 HX1 hzW
  have hkI := HK.out
  have HTW1 := Lib.hid hTW1
  clear hTW1
  have CC : ∀ (A' : Option Addr) (d c' : Nat) (Ls : List Rl) (Nx : ByteArray) (qx : Int) (X : World), Ls.length = d → d ≤ 80 → RRow X A' Ls → (∀ r ∈ Ls, r.fits) → Nx.size ≤ 140737488351232 → Hid (Tb w X) → Calls Tryd.prog 16 #[.slice A' d c', .string Nx, .int .i64 qx] X fun e w' => e = .returned (cmpV (cmpK Ls Nx qx d)) ∧ Below X.heap.size X w' := fun A' d c' Ls Nx qx X h1 h2 h3 h4 h5 h6 => compose_any A' d c' Ls Nx qx X h1 h2 h3 h4 h5 h6.out.1
  have CC := Lib.hid CC
  rcases o1 with ⟨rfl, hM0⟩ | ⟨g, c1, rfl, hc1, hcm1, r1⟩
  · have hk0 : k = 0 := by omega
    subst hM0 hk0
    have K1 : Hid (Tb w w1) := Lib.hid ⟨HTW1.out, B1.out⟩
    have hT0 : T = [] := List.eq_nil_of_length_eq_zero HL.out
    obtain ⟨o, ho⟩ : ∃ o, cmpK T N q 0 = o := ⟨_, rfl⟩
    have HO := Lib.hid ho
    have C0 : ∀ (c' : Nat) X, Hid (Tb w X) → Calls Tryd.prog 16 #[.slice none 0 c', .string N, .int .i64 q] X fun e w' => e = .returned (cmpV o) ∧ Below X.heap.size X w' := fun c' X kx => by
      rw [← HO.out]
      exact CC.out none 0 c' T N q X HL.out (by omega) (fun hp => by rw [HL.out] at hp; omega) HZ.out hN kx
    have C0 := Lib.hid C0
    have hkJ : (max 0 x0).tmod 1 = 0 := hkI
    clear ho hkI
    rcases o with _ | ⟨t2, p2⟩
    · unfold cmpV at C0
      go_wp2_with fail
      refine (C0.out _ w1 K1).mono ?_
      rintro e w2 ⟨rfl, b2⟩
      have K2 := tb K1 b2
      have y2 := (b2.cell (p := ⟨w.heap.size, 1, none⟩) hz1).trans x2
      have hz2 : w.heap.size < w2.heap.size := Nat.lt_of_lt_of_le hz1 b2.size
      have K2d : Hid (Tb w w2.drew) := tb K2 (Below.refl _ _).drew
      go_wp2_with fail
      go_region_held3 (fun X => X.cell? ⟨w.heap.size, 1, none⟩ = some (.int .i64 q)) (first | (with_reducible assumption) | exact y2) (first | (go_at_call 16; refine (C0.out _ _ K2d).mono ?_; rintro e w3 ⟨rfl, b3⟩; have K3 := tb K2d b3; have y3 : w3.cell? ⟨w.heap.size, 1, none⟩ = some (.int .i64 q) := (b3.cell (p := ⟨w.heap.size, 1, none⟩) hz2).trans y2; have B3 := Lib.hid b3) | (fail))
      all_goals go_wp2_with fail
      all_goals
        refine (rwakes_any w3 K3.out.1).mono ?_
        rintro e w4 ⟨rfl, b4⟩
        have K4 := tb K3 b4
        have y4 : w4.cell? ⟨w.heap.size, 1, none⟩ = some (.int .i64 q) := (b4.cell (p := ⟨w.heap.size, 1, none⟩) (Nat.lt_of_lt_of_le hz2 B3.out.size)).trans y3
        go_wp2
        go_ret
        exact ⟨rfl, K4.out.2⟩
    · have hnq : t2 = N ∧ p2 = q := by
        have h := HO.out
        unfold cmpK at h
        split at h
        · injection h with h
          injection h with h1 h2
          exact ⟨h1.symm, h2.symm⟩
        · cases h
      obtain ⟨rfl, rfl⟩ := hnq
      unfold cmpV at C0
      go_wp2_with fail
      refine (C0.out _ w1 K1).mono ?_
      rintro e w2 ⟨rfl, b2⟩
      have K2 := tb K1 b2
      have y2 := (b2.cell (p := ⟨w.heap.size, 1, none⟩) hz1).trans x2
      have hz2 : w.heap.size < w2.heap.size := Nat.lt_of_lt_of_le hz1 b2.size
      have K2d : Hid (Tb w w2.drew) := tb K2 (Below.refl _ _).drew
      go_wp2_with fail
      go_region_held3 (fun X => X.cell? ⟨w.heap.size, 1, none⟩ = some (.int .i64 p2)) (first | (with_reducible assumption) | exact y2) (first | (go_at_call 16; refine (C0.out _ _ K2d).mono ?_; rintro e w3 ⟨rfl, b3⟩; have K3 := tb K2d b3; have y3 : w3.cell? ⟨w.heap.size, 1, none⟩ = some (.int .i64 p2) := (b3.cell (p := ⟨w.heap.size, 1, none⟩) hz2).trans y2; have B3 := Lib.hid b3) | (fail))
      all_goals go_wp2_with fail
      all_goals
        refine (rwakes_any w3 K3.out.1).mono ?_
        rintro e w4 ⟨rfl, b4⟩
        have K4 := tb K3 b4
        have y4 : w4.cell? ⟨w.heap.size, 1, none⟩ = some (.int .i64 p2) := (b4.cell (p := ⟨w.heap.size, 1, none⟩) (Nat.lt_of_lt_of_le hz2 B3.out.size)).trans y3
        go_wp2_with fail
        refine (C0.out _ w4 K4).mono ?_
        rintro e w5 ⟨rfl, b5⟩
        have K5 := tb K4 b5
        have y5 : w5.cell? ⟨w.heap.size, 1, none⟩ = some (.int .i64 p2) := (b5.cell (p := ⟨w.heap.size, 1, none⟩) (Nat.lt_of_lt_of_le (Nat.lt_of_lt_of_le hz2 B3.out.size) b4.size)).trans y4
        go_wp2_with fail
        go_loopw [16, 90] (fun lv i wr => i = .int .i64 0 ∧ lv = .int .i64 p2 ∧ wr = w5) (fun _ i _ => 0)
        case atStart => exact ⟨rfl, rfl, rfl⟩
        case round =>
          obtain ⟨rfl, rfl, rfl⟩ := hrel
          go_wp2
          go_ret
          exact ⟨rfl, K5.out.2⟩
  · have K1 : Hid (Tb w w1) := Lib.hid ⟨HTW1.out, B1.out⟩
    obtain ⟨o, ho⟩ : ∃ o, cmpK T N q M = o := ⟨_, rfl⟩
    obtain ⟨o1, ho1⟩ : ∃ o, cmpK T N q k = o := ⟨_, rfl⟩
    have HO := Lib.hid ho
    have HO1 := Lib.hid ho1
    have R1 := Lib.hid r1
    clear ho ho1 r1
    have CK : ∀ X, Hid (Tb w X) → Below w1.heap.size w1 X → Calls Tryd.prog 16 #[.slice (some ⟨g, 0, none⟩) k c1, .string N, .int .i64 q] X fun e w' => e = .returned (cmpV o1) ∧ Below X.heap.size X w' := fun X kx bx => by
      rw [← HO1.out, ← cmp_take (L := T) (N := N) (q := q) (Nat.le_refl k)]
      exact CC.out _ k c1 (T.take k) N q X (by rw [List.length_take, HL.out]; omega) (by omega) (rrow_take (R1.out.below bx)) (fun r hr => HZ.out r (List.mem_of_mem_take hr)) hN kx
    have CK := Lib.hid CK
    have hkc : (k : Int) ≤ (c1 : Int) := by omega
    go_wp2_with fail
    refine (CC.out _ _ _ T N q w1 HL.out (by omega) R1.out HZ.out hN K1).mono ?_
    rintro e w2 ⟨rfl, b2⟩
    rw [HO.out]
    have K2 := tb K1 b2
    have y2 := (b2.cell (p := ⟨w.heap.size, 1, none⟩) hz1).trans x2
    have hz2 : w.heap.size < w2.heap.size := Nat.lt_of_lt_of_le hz1 b2.size
    have K2d : Hid (Tb w w2.drew) := tb K2 (Below.refl _ _).drew
    have CK2 := CK.out w2.drew K2d (b2.drew)
    have HB2 := Lib.hid b2
    clear b2
    rcases o1 with _ | ⟨t1, p1⟩
    · have hoN : o = none := by
        rw [← HO.out, show M = k + (M - k) from by omega]
        exact cmp_none HO1.out (M - k)
      subst hoN
      unfold cmpV
      unfold cmpV at CK2
      have CK2 := Lib.hid CK2
      go_wp2_with fail
      go_region_held3 (fun X => X.cell? ⟨w.heap.size, 1, none⟩ = some (.int .i64 q)) (first | (with_reducible assumption) | exact y2) (first | (go_at_call 16; refine CK2.out.mono ?_; rintro e w3 ⟨rfl, b3⟩; have K3 := tb K2d b3; have y3 : w3.cell? ⟨w.heap.size, 1, none⟩ = some (.int .i64 q) := (b3.cell (p := ⟨w.heap.size, 1, none⟩) hz2).trans y2) | (fail))
      all_goals go_wp2_with fail
      all_goals
        refine (rwakes_any w3 K3.out.1).mono ?_
        rintro e w4 ⟨rfl, b4⟩
        have K4 := tb K3 b4
        go_wp2
        go_ret
        exact ⟨rfl, K4.out.2⟩
    · unfold cmpV at CK2
      have CK2 := Lib.hid CK2
      have hts : t1.size ≤ 140737488351232 := name_small (cmp_name HO1.out)
      have CD : ∀ (off c' d : Nat), d = M - k → (off = 0 + k * 5 ∨ d = 0) → ∀ X, Hid (Tb w X) → Below w1.heap.size w1 X → Calls Tryd.prog 16 #[.slice (some ⟨g, off, none⟩) d c', .string t1, .int .i64 p1] X fun e w' => e = .returned (cmpV o) ∧ Below X.heap.size X w' := fun off c' d hd ho X kx bx => by
        subst hd
        rw [← HO.out]
        have e := cmp_drop HO1.out (M - k)
        rw [show k + (M - k) = M from by omega] at e
        rw [← e]
        exact CC.out _ (M - k) c' (T.drop k) t1 p1 X (by rw [List.length_drop, HL.out]) (by omega) (by
          rcases ho with h0 | h0
          · subst h0
            exact rrow_drop (R1.out.below bx)
          · intro hp
            rw [List.length_drop, HL.out] at hp
            omega) (fun r hr => HZ.out r (List.mem_of_mem_drop hr)) hts kx
      have CD := Lib.hid CD
      have hkm : (k : Int) ≤ (M : Int) := by omega
      by_cases hkc1 : k = c1
      · have hMk : M = k := by omega
        subst hkc1 hMk
        rcases o with _ | ⟨t2, p2⟩
        · unfold cmpV at CD ⊢
          go_wp2_with fail
          go_region_held3 (fun X => X.cell? ⟨w.heap.size, 1, none⟩ = some (.int .i64 q)) (first | (with_reducible assumption) | exact y2) (first | (go_at_call 16; refine CK2.out.mono ?_; rintro e w3 ⟨rfl, b3⟩; have K3 := tb K2d b3; have y3 : w3.cell? ⟨w.heap.size, 1, none⟩ = some (.int .i64 q) := (b3.cell (p := ⟨w.heap.size, 1, none⟩) hz2).trans y2; have B3 := Lib.hid b3) | (fail))
          all_goals go_wp2_with fail
          all_goals
            refine (rwakes_any w3 K3.out.1).mono ?_
            rintro e w4 ⟨rfl, b4⟩
            have K4 := tb K3 b4
            have bb : Below w1.heap.size w1 w4 := HB2.out.trans (((Below.refl _ _).drew.trans (B3.out.trans (b4.mono B3.out.size))).mono HB2.out.size)
            have y4 : w4.cell? ⟨w.heap.size, 1, none⟩ = some (.int .i64 q) := (b4.cell (p := ⟨w.heap.size, 1, none⟩) (Nat.lt_of_lt_of_le hz2 B3.out.size)).trans y3
            go_wp2_with fail
            refine (CD.out _ _ _ (by omega) (.inr (by omega)) w4 K4 bb).mono ?_
            rintro e w5 ⟨rfl, b5⟩
            have K5 := tb K4 b5
            go_wp2
            go_ret
            exact ⟨rfl, K5.out.2⟩
        · unfold cmpV at CD ⊢
          go_wp2_with fail
          go_region_held3 (fun X => X.cell? ⟨w.heap.size, 1, none⟩ = some (.int .i64 q)) (first | (with_reducible assumption) | exact y2) (first | (go_at_call 16; refine CK2.out.mono ?_; rintro e w3 ⟨rfl, b3⟩; have K3 := tb K2d b3; have y3 : w3.cell? ⟨w.heap.size, 1, none⟩ = some (.int .i64 q) := (b3.cell (p := ⟨w.heap.size, 1, none⟩) hz2).trans y2; have B3 := Lib.hid b3) | (fail))
          all_goals go_wp2_with fail
          all_goals
            refine (rwakes_any w3 K3.out.1).mono ?_
            rintro e w4 ⟨rfl, b4⟩
            have K4 := tb K3 b4
            have bb : Below w1.heap.size w1 w4 := HB2.out.trans (((Below.refl _ _).drew.trans (B3.out.trans (b4.mono B3.out.size))).mono HB2.out.size)
            have y4 : w4.cell? ⟨w.heap.size, 1, none⟩ = some (.int .i64 q) := (b4.cell (p := ⟨w.heap.size, 1, none⟩) (Nat.lt_of_lt_of_le hz2 B3.out.size)).trans y3
            go_wp2_with fail
            refine (CD.out _ _ _ (by omega) (.inr (by omega)) w4 K4 bb).mono ?_
            rintro e w5 ⟨rfl, b5⟩
            have K5 := tb K4 b5
            have y5 : w5.cell? ⟨w.heap.size, 1, none⟩ = some (.int .i64 q) := (b5.cell (p := ⟨w.heap.size, 1, none⟩) (Nat.lt_of_lt_of_le (Nat.lt_of_lt_of_le hz2 B3.out.size) b4.size)).trans y4
            have R5 := R1.out.below (bb.trans (b5.mono bb.size))
            have HP := cmp_min HO.out
            go_wp2_with fail
            go_loopw [16, 90] (fun lv i wr => ∃ (j : Nat), i = .int .i64 j ∧ j ≤ M ∧ lv = .int .i64 (minK T q j) ∧ Hid (Below w5.heap.size w5 wr)) (fun _ i _ => M - (intOf i).toNat)
            case atStart => exact ⟨0, rfl, by omega, rfl, Lib.hid (Below.refl _ _)⟩
            case round =>
              obtain ⟨j, rfl, hj, rfl, hbr⟩ := hrel
              by_cases hjM : j < M
              · obtain ⟨b, o, e0, hl, hc⟩ := (R5.below hbr.out) (by rw [HL.out]; omega)
                injection e0 with e0
                injection e0 with e01 e02
                subst e01 e02
                obtain ⟨r, hr⟩ : ∃ x, T[j]? = some x := ⟨_, List.getElem?_eq_getElem (by rw [HL.out]; exact hjM)⟩
                obtain ⟨e1, e2, e3, e4, e5⟩ := hc j r hr
                rw [Nat.zero_add] at e1 e2 e3 e4 e5
                have HS := Lib.hid (min_succ (q := q) hr)
                have hkn : (j : Int) < (M : Int) := by omega
                obtain ⟨mm, hmm⟩ : ∃ mm, minK T q j = mm := ⟨_, rfl⟩
                rw [hmm] at HS
                rw [hmm]
                clear hc hr hmm
                go_wp2_with fail
                go_roundw
                case rel => exact ⟨j + 1, by go_num, by omega, by rw [HS.out], Lib.hid (hbr.out.trans ((Below.refl _ _).alloc (Nat.le_refl _) _ |>.mono hbr.out.size))⟩
                case measure => simp [intOf]; omega
              · have hjn : j = M := by omega
                subst hjn
                rw [← HP]
                go_wp2
                go_ret
                exact ⟨rfl, K5.out.2.trans (hbr.out.mono K5.out.2.size)⟩
      · rcases o with _ | ⟨t2, p2⟩
        · unfold cmpV at CD ⊢
          go_wp2_with fail
          go_region_held3 (fun X => X.cell? ⟨w.heap.size, 1, none⟩ = some (.int .i64 q)) (first | (with_reducible assumption) | exact y2) (first | (go_at_call 16; refine CK2.out.mono ?_; rintro e w3 ⟨rfl, b3⟩; have K3 := tb K2d b3; have y3 : w3.cell? ⟨w.heap.size, 1, none⟩ = some (.int .i64 q) := (b3.cell (p := ⟨w.heap.size, 1, none⟩) hz2).trans y2; have B3 := Lib.hid b3) | (fail))
          all_goals go_wp2_with fail
          all_goals
            refine (rwakes_any w3 K3.out.1).mono ?_
            rintro e w4 ⟨rfl, b4⟩
            have K4 := tb K3 b4
            have bb : Below w1.heap.size w1 w4 := HB2.out.trans (((Below.refl _ _).drew.trans (B3.out.trans (b4.mono B3.out.size))).mono HB2.out.size)
            have y4 : w4.cell? ⟨w.heap.size, 1, none⟩ = some (.int .i64 q) := (b4.cell (p := ⟨w.heap.size, 1, none⟩) (Nat.lt_of_lt_of_le hz2 B3.out.size)).trans y3
            go_wp2_with fail
            refine (CD.out _ _ _ (by omega) (.inl (by omega)) w4 K4 bb).mono ?_
            rintro e w5 ⟨rfl, b5⟩
            have K5 := tb K4 b5
            go_wp2
            go_ret
            exact ⟨rfl, K5.out.2⟩
        · unfold cmpV at CD ⊢
          go_wp2_with fail
          go_region_held3 (fun X => X.cell? ⟨w.heap.size, 1, none⟩ = some (.int .i64 q)) (first | (with_reducible assumption) | exact y2) (first | (go_at_call 16; refine CK2.out.mono ?_; rintro e w3 ⟨rfl, b3⟩; have K3 := tb K2d b3; have y3 : w3.cell? ⟨w.heap.size, 1, none⟩ = some (.int .i64 q) := (b3.cell (p := ⟨w.heap.size, 1, none⟩) hz2).trans y2; have B3 := Lib.hid b3) | (fail))
          all_goals go_wp2_with fail
          all_goals
            refine (rwakes_any w3 K3.out.1).mono ?_
            rintro e w4 ⟨rfl, b4⟩
            have K4 := tb K3 b4
            have bb : Below w1.heap.size w1 w4 := HB2.out.trans (((Below.refl _ _).drew.trans (B3.out.trans (b4.mono B3.out.size))).mono HB2.out.size)
            have y4 : w4.cell? ⟨w.heap.size, 1, none⟩ = some (.int .i64 q) := (b4.cell (p := ⟨w.heap.size, 1, none⟩) (Nat.lt_of_lt_of_le hz2 B3.out.size)).trans y3
            go_wp2_with fail
            refine (CD.out _ _ _ (by omega) (.inl (by omega)) w4 K4 bb).mono ?_
            rintro e w5 ⟨rfl, b5⟩
            have K5 := tb K4 b5
            have y5 : w5.cell? ⟨w.heap.size, 1, none⟩ = some (.int .i64 q) := (b5.cell (p := ⟨w.heap.size, 1, none⟩) (Nat.lt_of_lt_of_le (Nat.lt_of_lt_of_le hz2 B3.out.size) b4.size)).trans y4
            have R5 := R1.out.below (bb.trans (b5.mono bb.size))
            have HP := cmp_min HO.out
            go_wp2_with fail
            go_loopw [16, 90] (fun lv i wr => ∃ (j : Nat), i = .int .i64 j ∧ j ≤ M ∧ lv = .int .i64 (minK T q j) ∧ Hid (Below w5.heap.size w5 wr)) (fun _ i _ => M - (intOf i).toNat)
            case atStart => exact ⟨0, rfl, by omega, rfl, Lib.hid (Below.refl _ _)⟩
            case round =>
              obtain ⟨j, rfl, hj, rfl, hbr⟩ := hrel
              by_cases hjM : j < M
              · obtain ⟨b, o, e0, hl, hc⟩ := (R5.below hbr.out) (by rw [HL.out]; omega)
                injection e0 with e0
                injection e0 with e01 e02
                subst e01 e02
                obtain ⟨r, hr⟩ : ∃ x, T[j]? = some x := ⟨_, List.getElem?_eq_getElem (by rw [HL.out]; exact hjM)⟩
                obtain ⟨e1, e2, e3, e4, e5⟩ := hc j r hr
                rw [Nat.zero_add] at e1 e2 e3 e4 e5
                have HS := Lib.hid (min_succ (q := q) hr)
                have hkn : (j : Int) < (M : Int) := by omega
                obtain ⟨mm, hmm⟩ : ∃ mm, minK T q j = mm := ⟨_, rfl⟩
                rw [hmm] at HS
                rw [hmm]
                clear hc hr hmm
                go_wp2_with fail
                go_roundw
                case rel => exact ⟨j + 1, by go_num, by omega, by rw [HS.out], Lib.hid (hbr.out.trans ((Below.refl _ _).alloc (Nat.le_refl _) _ |>.mono hbr.out.size))⟩
                case measure => simp [intOf]; omega
              · have hjn : j = M := by omega
                subst hjn
                rw [← HP]
                go_wp2
                go_ret
                exact ⟨rfl, K5.out.2.trans (hbr.out.mono K5.out.2.size)⟩
theorem remapRows_walk (v : Value) (L : List Rl) (N : ByteArray) (hN : N.size ≤ 140737488351232) (xv : Value) (z : Int × Int) (w : World) (h : SRule w v L) (h2 : xv = .agg #[.int .i64 z.1, .int .i64 z.2] ∧ -9223372036854775808 ≤ z.1 ∧ z.1 ≤ 9223372036854775807 ∧ -9223372036854775808 ≤ z.2 ∧ z.2 ≤ 9223372036854775807) (hT : Tabs w) :
    Calls Tryd.prog 5 #[v, .string N, xv] w fun e w' => e = .returned (.bool true) ∧ Below w.heap.size w w' := by
  obtain ⟨rfl, hz1, hz2, _, _⟩ := h2
  obtain ⟨⟨rfl, rfl⟩ | ⟨a, cap, rfl, h1, h2, h3⟩, hz⟩ := h
  · exact rows_core none 0 0 [] N hN z.1 z.2 ⟨hz1, hz2⟩ w rfl (Nat.le_refl _) (by decide) (fun hp => absurd hp (by simp)) hz (.inl ⟨rfl, rfl⟩) hT
  · exact rows_core (some a) L.length cap L N hN z.1 z.2 ⟨hz1, hz2⟩ w rfl h1 h2 h3 hz (.inr ⟨a, rfl⟩) hT
end Go.Proofs.YtdjiioidkgppjaaDoor
