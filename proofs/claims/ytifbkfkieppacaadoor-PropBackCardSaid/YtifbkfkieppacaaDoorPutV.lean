/- The walks of a property's width, of has, of both value functions. -/
import Derived.Test.YtifbkfkieppacaaDoorPutP
import Derived.Test.YtifbkfkieppacaaDoorKind
import Derived.Test.YtifbkfkieppacaaDoorPropF
import Derived.Deep.RegionHeld3
namespace Go.Proofs.YtifbkfkieppacaaDoor
set_option linter.unusedVariables false
open Go.RowKit Pl Go.Shelf

theorem s4b_blw {X Y : World} {B : Nat} {p : Pp} (h : S4b X B p) (hB : B < X.heap.size) (hb : Below X.heap.size X Y) : S4b Y B p :=
  ⟨(hb.cell (p := ⟨B, 0, none⟩) hB).trans h.1, (hb.cell (p := ⟨B, 1, none⟩) hB).trans h.2.1, (hb.cell (p := ⟨B, 2, none⟩) hB).trans h.2.2.1, (hb.cell (p := ⟨B, 3, none⟩) hB).trans h.2.2.2⟩
theorem width_any (k : Int) (w : World) : Calls Tryd.prog 34 #[.int .i64 k] w fun e w' => e = .returned (.int .i64 (wid k)) ∧ w = w' := by
  obtain ⟨d, hd⟩ : ∃ d, wid k = d := ⟨_, rfl⟩
  rw [hd]
  unfold wid at hd
  by_cases h1 : k = 1
  · subst h1
    obtain rfl : d = 1 := by rw [← hd]; rfl
    clear hd
    go_enter Tryd.func34, Tryd.ntmps34
    go_wp2
    go_ret
    exact ⟨rfl, rfl⟩
  · by_cases h2 : k = 2
    · subst h2
      obtain rfl : d = 2 := by rw [← hd]; rfl
      clear hd
      go_enter Tryd.func34, Tryd.ntmps34
      go_wp2
      go_ret
      exact ⟨rfl, rfl⟩
    · obtain rfl : d = 4 := by rw [← hd, if_neg h1, if_neg h2]
      clear hd
      have e1 : (k == 1) = false := by rw [beq_eq_false_iff_ne]; exact h1
      have e2 : (k == 2) = false := by rw [beq_eq_false_iff_ne]; exact h2
      clear h1 h2
      go_enter Tryd.func34, Tryd.ntmps34
      go_wp2
      go_ret
      exact ⟨rfl, rfl⟩
theorem refwidth_any (k : Int) (w : World) : Calls Tryd.prog 40 #[.int .i64 k] w fun e w' => e = .returned (.int .i64 (wid k)) ∧ w = w' := by
  obtain ⟨d, hd⟩ : ∃ d, wid k = d := ⟨_, rfl⟩
  rw [hd]
  unfold wid at hd
  by_cases h1 : k = 1
  · subst h1
    obtain rfl : d = 1 := by rw [← hd]; rfl
    clear hd
    go_enter Tryd.func40, Tryd.ntmps40
    go_wp2
    go_ret
    exact ⟨rfl, rfl⟩
  · by_cases h2 : k = 2
    · subst h2
      obtain rfl : d = 2 := by rw [← hd]; rfl
      clear hd
      go_enter Tryd.func40, Tryd.ntmps40
      go_wp2
      go_ret
      exact ⟨rfl, rfl⟩
    · obtain rfl : d = 4 := by rw [← hd, if_neg h1, if_neg h2]
      clear hd
      have e1 : (k == 1) = false := by rw [beq_eq_false_iff_ne]; exact h1
      have e2 : (k == 2) = false := by rw [beq_eq_false_iff_ne]; exact h2
      clear h1 h2
      go_enter Tryd.func40, Tryd.ntmps40
      go_wp2
      go_ret
      exact ⟨rfl, rfl⟩
theorem fnd_some (L : List Pp) (id : Int) : (fnd L id).isSome = L.any (fun p => p.id == id) := by
  unfold fnd
  rw [List.isSome_find?]
theorem has_any (A : Option Addr) (n cap : Nat) (L : List Pp) (id : Int) (w : World) (hn : L.length = n) (hm : n ≤ 1048576) (h : PRow w A L) :
    Calls Tryd.prog 15 #[.slice A n cap, .int .i64 id] w fun e w' => e = .returned (.bool (L.any (fun p => p.id == id) && (id != 38))) ∧ Below w.heap.size w w' := by
  have C := find_any A n cap L id w hn hm h
  rw [fnd_some] at C
  obtain ⟨ok, hok⟩ : ∃ ok, L.any (fun p => p.id == id) = ok := ⟨_, rfl⟩
  rw [hok] at C ⊢
  obtain ⟨⟨pi, pn, ps, pt⟩, hp⟩ : ∃ p, (fnd L id).getD zP = p := ⟨_, rfl⟩
  rw [hp] at C
  unfold ppV ppA at C
  have C := Lib.hid C
  clear hn hm h hok hp
  cases ok
  · go_enter Tryd.func15, Tryd.ntmps15
    go_wp2_with fail
    refine C.out.mono ?_
    rintro e w1 ⟨rfl, b1⟩
    go_wp2
    go_ret
    exact ⟨rfl, b1.alloc b1.size _⟩
  · go_enter Tryd.func15, Tryd.ntmps15
    go_wp2_with fail
    refine C.out.mono ?_
    rintro e w1 ⟨rfl, b1⟩
    go_wp2
    go_ret
    exact ⟨rfl, b1.alloc b1.size _⟩
set_option maxRecDepth 100000 in
set_option maxHeartbeats 2000000 in
theorem value_any (p : Pp) (w : World) (hz : p.fits) (hT : Tabs w) :
    Calls Tryd.prog 16 #[.agg #[.int .i64 p.id, .int .i64 p.n, .string p.s, .string p.t]] w fun e w' => ∃ v, e = .returned (.tuple #[.string v, .int .u8 (pvC p)]) ∧ (pvC p = 0 → v = pvS p) ∧ Below w.heap.size w w' := by
  obtain ⟨z1, z2, _⟩ := hz
  obtain ⟨k, hk⟩ : ∃ k, kindOf p.id = k := ⟨_, rfl⟩
  have CK : ∀ X : World, Calls Tryd.prog 14 #[.int .i64 p.id] X fun e w' => e = .returned (.int .i64 k) ∧ X = w' := fun X => by rw [← hk]; exact kind_any p.id X
  have b0 : Below w.heap.size w (w.alloc (.cells #[.int .i64 p.id, .int .i64 p.n, .string p.s, .string p.t] 39)) := (Below.refl _ _).alloc (Nat.le_refl _) _
  have hS : S4b (w.alloc (.cells #[.int .i64 p.id, .int .i64 p.n, .string p.s, .string p.t] 39)) w.heap.size p := ⟨World.cell?_alloc_at _ _ _ _ rfl, World.cell?_alloc_at _ _ _ _ rfl, World.cell?_alloc_at _ _ _ _ rfl, World.cell?_alloc_at _ _ _ _ rfl⟩
  have hl : w.heap.size < (w.alloc (.cells #[.int .i64 p.id, .int .i64 p.n, .string p.s, .string p.t] 39)).heap.size := by simp
  obtain ⟨W, hW⟩ : ∃ W, w.alloc (.cells #[.int .i64 p.id, .int .i64 p.n, .string p.s, .string p.t] 39) = W := ⟨_, rfl⟩
  rw [hW] at b0 hS hl
  have CK := Lib.hid CK
  have HW := Lib.hid hW
  have B0 := Lib.hid b0
  have HT := Lib.hid (hT.below b0)
  have HK := Lib.hid hk
  obtain ⟨s0, s1, s2, s3⟩ := hS
  obtain ⟨c, hc⟩ : ∃ c, pvC p = c := ⟨_, rfl⟩
  have hc2 := hc
  unfold pvC at hc2
  rw [hk] at hc2
  rw [hc]
  clear hc hk hW b0 hT
  by_cases h4 : k = 4
  · subst h4
    obtain rfl : putC p.n = c := hc2
    have HS : Hid ((⟨(enc p.n).toArray⟩ : ByteArray) = pvS p) := Lib.hid (by unfold pvS; rw [HK.out]; rfl)
    go_enter Tryd.func16, Tryd.ntmps16
    go_wp2_with fail
    rw [HW.out]
    refine (CK.out W).mono ?_
    rintro e w1 ⟨rfl, rfl⟩
    go_wp2_with fail
    refine (put_all p.n _).mono ?_
    rintro e w2 ⟨rfl, b2⟩
    go_wp2
    go_ret2
    exact ⟨_, rfl, fun _ => HS.out, B0.out.trans (b2.mono B0.out.size)⟩
  · by_cases h5 : k = 5
    · subst h5
      obtain rfl : dataC p.s = c := hc2
      have HS : Hid (dataS p.s = pvS p) := Lib.hid (by unfold pvS; rw [HK.out]; rfl)
      go_enter Tryd.func16, Tryd.ntmps16
      go_wp2_with fail
      rw [HW.out]
      refine (CK.out W).mono ?_
      rintro e w1 ⟨rfl, rfl⟩
      go_wp2_with fail
      refine (data_all p.s _ z1).mono ?_
      rintro e w2 ⟨rfl, b2⟩
      go_wp2
      go_ret2
      exact ⟨_, rfl, fun _ => HS.out, B0.out.trans (b2.mono B0.out.size)⟩
    · by_cases h6 : k = 6
      · subst h6
        obtain rfl : tputC p.s = c := hc2
        have HS : Hid (tputS p.s = pvS p) := Lib.hid (by unfold pvS; rw [HK.out]; rfl)
        go_enter Tryd.func16, Tryd.ntmps16
        go_wp2_with fail
        rw [HW.out]
        refine (CK.out W).mono ?_
        rintro e w1 ⟨rfl, rfl⟩
        go_wp2_with fail
        refine (tput_any p.s _ z1 HT.out).mono ?_
        rintro e w2 ⟨rfl, b2⟩
        go_wp2
        go_ret2
        exact ⟨_, rfl, fun _ => HS.out, B0.out.trans (b2.mono B0.out.size)⟩
      · by_cases h7 : k = 7
        · subst h7
          have HS : Hid (tputS p.s ++ tputS p.t = pvS p) := Lib.hid (by unfold pvS; rw [HK.out]; rfl)
          have q1 := tputS_small p.s
          have q2 := tputS_small p.t
          have hc3 : (if tputC p.s = 0 then tputC p.t else tputC p.s) = c := hc2
          have C1 := tput_any p.s W z1 HT.out
          have C2 : ∀ X, Tabs X → Calls Tryd.prog 32 #[.string p.t] X fun e w' => e = .returned (.tuple #[.string (tputS p.t), .int .u8 (tputC p.t)]) ∧ Below X.heap.size X w' := fun X h => tput_any p.t X z2 h
          obtain ⟨u1, hu1⟩ : ∃ u, tputS p.s = u := ⟨_, rfl⟩
          obtain ⟨u2, hu2⟩ : ∃ u, tputS p.t = u := ⟨_, rfl⟩
          obtain ⟨d1, hd1⟩ : ∃ u, tputC p.s = u := ⟨_, rfl⟩
          obtain ⟨d2, hd2⟩ : ∃ u, tputC p.t = u := ⟨_, rfl⟩
          rw [hu1] at HS q1 C1
          rw [hu2] at HS q2 C2
          rw [hd1] at C1 hc3
          rw [hd2] at C2 hc3
          have C1 := Lib.hid C1
          have C2 := Lib.hid C2
          have s3' : W.cell? ⟨w.heap.size, 3, none⟩ = some (.string p.t) := s3
          clear hu1 hu2 hd1 hd2 hc2
          by_cases h0 : d1 = 0
          · subst h0
            rw [if_pos rfl] at hc3
            subst hc3
            go_enter Tryd.func16, Tryd.ntmps16
            go_wp2_with fail
            rw [HW.out]
            refine (CK.out W).mono ?_
            rintro e w1 ⟨rfl, rfl⟩
            go_wp2_with fail
            refine C1.out.mono ?_
            rintro e w2 ⟨rfl, b2⟩
            have t3 := (b2.cell (p := ⟨w.heap.size, 3, none⟩) hl).trans s3
            have HT2 := Lib.hid (HT.out.below b2)
            go_wp2_with fail
            refine (C2.out _ HT2.out).mono ?_
            rintro e w3 ⟨rfl, b3⟩
            go_wp2
            go_ret2
            exact ⟨_, rfl, fun _ => HS.out, B0.out.trans ((b2.trans (b3.mono b2.size)).mono B0.out.size)⟩
          · rw [if_neg h0] at hc3
            subst hc3
            have e0 : (d1 == 0) = false := by rw [beq_eq_false_iff_ne]; exact h0
            have e1 : (d1 != 0) = true := by rw [bne, e0]; rfl
            go_enter Tryd.func16, Tryd.ntmps16
            go_wp2_with fail
            rw [HW.out]
            refine (CK.out W).mono ?_
            rintro e w1 ⟨rfl, rfl⟩
            go_wp2_with fail
            refine C1.out.mono ?_
            rintro e w2 ⟨rfl, b2⟩
            go_wp2
            go_ret2
            exact ⟨_, rfl, fun h => absurd h h0, B0.out.trans (b2.mono B0.out.size)⟩
        · have HS : Hid ((⟨(fixS (wid k) p.n).toArray⟩ : ByteArray) = pvS p) := Lib.hid (by unfold pvS; rw [HK.out, if_neg h4, if_neg h5, if_neg h6, if_neg h7])
          obtain rfl : fixC (wid k) p.n = c := by rw [← hc2, if_neg h4, if_neg h5, if_neg h6, if_neg h7]
          have e4 : (k == 4) = false := by rw [beq_eq_false_iff_ne]; exact h4
          have e5 : (k == 5) = false := by rw [beq_eq_false_iff_ne]; exact h5
          have e6 : (k == 6) = false := by rw [beq_eq_false_iff_ne]; exact h6
          have e7 : (k == 7) = false := by rw [beq_eq_false_iff_ne]; exact h7
          clear h4 h5 h6 h7
          go_enter Tryd.func16, Tryd.ntmps16
          go_wp2_with fail
          rw [HW.out]
          refine (CK.out W).mono ?_
          rintro e w1 ⟨rfl, rfl⟩
          go_wp2_with fail
          have s1d : W.drew.cell? ⟨w.heap.size, 1, none⟩ = some (.int .i64 p.n) := s1
          have bd : Below W.heap.size W W.drew := (Below.refl _ _).drew
          have hld : w.heap.size < W.drew.heap.size := hl
          go_region_held3 (fun X => X.cell? ⟨w.heap.size, 1, none⟩ = some (.int .i64 p.n)) (first | (with_reducible assumption) | exact s1 | exact s1d | exact y3) (first | (go_at_call 34; refine (width_any k _).mono ?_; rintro e w2 ⟨rfl, rfl⟩) | (go_at_call 33; refine (fixed_all (wid k) p.n _).mono ?_; rintro e w3 ⟨rfl, b3⟩; have y3 : w3.cell? ⟨w.heap.size, 1, none⟩ = some (.int .i64 p.n) := (b3.cell (p := ⟨w.heap.size, 1, none⟩) hld).trans s1d) | (fail))
          all_goals go_wp2
          all_goals
            go_ret2
            exact ⟨_, rfl, fun _ => HS.out, B0.out.trans ((bd.trans (b3.mono bd.size)).mono B0.out.size)⟩
end Go.Proofs.YtifbkfkieppacaaDoor
