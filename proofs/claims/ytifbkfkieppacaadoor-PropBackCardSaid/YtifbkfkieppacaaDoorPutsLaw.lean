/- PropPuts: the law's walk. -/
import Derived.Test.YtifbkfkieppacaaDoorPWakes
import Derived.Test.YtifbkfkieppacaaDoorRefPutW
import Derived.Test.YtifbkfkieppacaaDoorPutArg
namespace Go.Proofs.YtifbkfkieppacaaDoor
set_option linter.unusedVariables false
open Go.RowKit Pl Go.Shelf

theorem codK_bd (L : List Pp) : ∀ k, 0 ≤ codK L k ∧ codK L k ≤ 255
  | 0 => ⟨Int.le_refl 0, (by decide : (0 : Int) ≤ 255)⟩
  | k + 1 => by
    have ih := codK_bd L k
    show 0 ≤ (if codK L k = 0 then (match L[k]? with | some p => stp L k p | none => 0) else codK L k) ∧ (if codK L k = 0 then (match L[k]? with | some p => stp L k p | none => 0) else codK L k) ≤ 255
    split
    · split
      · rename_i p _
        have := pvC_bd p
        unfold stp
        split
        · decide
        · split
          · decide
          · omega
      · decide
    · exact ih
theorem ppC_bd (L : List Pp) : 0 ≤ ppC L ∧ ppC L ≤ 255 := by
  unfold ppC
  split
  · decide
  · exact codK_bd L _
theorem fits_take {L : List Pp} {M : Nat} (h : ∀ p ∈ L, p.fits) : ∀ p ∈ L.take M, p.fits := fun p hp => h p (List.mem_of_mem_take hp)
set_option maxRecDepth 100000 in
set_option maxHeartbeats 4000000 in
theorem puts_core (A : Option Addr) (n cap : Nat) (L : List Pp) (w : World) (hn : L.length = n) (hc : n ≤ cap) (hcm : cap ≤ maxLen) (h : PRow w A L) (hz : ∀ p ∈ L, p.fits) (hA : (A = none ∧ cap = 0) ∨ ∃ a, A = some a) (hT : Tabs w) :
    Calls Tryd.prog 3 #[.slice A n cap] w fun e w' => e = .returned (.bool true) ∧ Below w.heap.size w w' := by
  obtain ⟨M, hM⟩ : ∃ M, min n 80 = M := ⟨_, rfl⟩
  have hM80 : M ≤ 80 := by omega
  have CP := Lib.hid (props_any A n cap M L w hn hc hcm h hM hA)
  have hl : (L.take M).length = M := by rw [List.length_take]; omega
  obtain ⟨T, hT'⟩ : ∃ T, L.take M = T := ⟨_, rfl⟩
  have hzT : ∀ p ∈ T, p.fits := by rw [← hT']; exact fits_take hz
  rw [hT'] at CP hl
  have HL := Lib.hid hl
  have hbd := ppC_bd T
  obtain ⟨c, hcc⟩ : ∃ c, ppC T = c := ⟨_, rfl⟩
  obtain ⟨s, hs⟩ : ∃ s, ppS T = s := ⟨_, rfl⟩
  have CA : ∀ (A1 : Option Addr) (c1 : Nat) (X : World), M ≤ c1 → PRow X A1 T → Tabs X → Calls Tryd.prog 8 #[.slice A1 M c1] X fun e w' => e = .returned (.tuple #[.string s, .int .u8 c]) ∧ Below X.heap.size X w' := fun A1 c1 X h1 hp ht => by rw [← hs, ← hcc]; exact pput_any A1 M c1 T X hl h1 (by omega) hp hzT ht
  have CB : ∀ (A1 : Option Addr) (c1 : Nat) (X : World), M ≤ c1 → PRow X A1 T → Calls Tryd.prog 9 #[.slice A1 M c1] X fun e w' => e = .returned (.tuple #[.string s, .int .i64 c]) ∧ Below X.heap.size X w' := fun A1 c1 X h1 hp => by rw [← hs, ← hcc]; exact refpput_any A1 M c1 T X hl h1 (by omega) hp hzT
  rw [hcc] at hbd
  obtain ⟨hb0, hb1⟩ := hbd
  have CA := Lib.hid CA
  have CB := Lib.hid CB
  have HT := Lib.hid hT
  have f1 : (s.toList == s.toList) = true := by simp
  clear hn hc hcm h hA hM hl hT' hz hzT hcc hs hT
  go_enter Tryd.func3, Tryd.ntmps3
  go_wp2_with fail
  refine CP.out.mono ?_
  rintro e w1 ⟨v1, v2, rfl, own1, own2, b1⟩
  obtain ⟨A1, c1, rfl, hc1, r1⟩ := own_prow own1 HL.out.symm
  obtain ⟨A2, c2, rfl, hc2, r2⟩ := own_prow own2 HL.out.symm
  have B1 := Lib.hid b1
  have R1 := Lib.hid r1
  have R2 := Lib.hid r2
  have HT1 := Lib.hid (HT.out.below b1)
  clear own1 own2 b1 r1 r2
  go_wp2_with fail
  refine (CA.out _ _ _ hc1 R1.out HT1.out).mono ?_
  rintro e w2 ⟨rfl, b2⟩
  have B2 := Lib.hid (B1.out.trans (b2.mono B1.out.size))
  have R2 := Lib.hid (R2.out.below b2)
  have HT2 := Lib.hid (HT1.out.below b2)
  clear b2
  go_wp2_with fail
  refine (CB.out _ _ _ hc2 R2.out).mono ?_
  rintro e w3 ⟨rfl, b3⟩
  have B3 := Lib.hid (B2.out.trans (b3.mono B2.out.size))
  have HT3 := Lib.hid (HT2.out.below b3)
  clear b3
  go_wp2_with fail
  refine (pwakes_any _ HT3.out).mono ?_
  rintro e w4 ⟨rfl, b4⟩
  go_wp2
  go_ret
  exact ⟨rfl, B3.out.trans (b4.mono B3.out.size)⟩
theorem propPuts_walk (v : Value) (L : List Pp) (w : World) (h : SPropZ w v L) (hT : Tabs w) :
    Calls Tryd.prog 3 #[v] w fun e w' => e = .returned (.bool true) ∧ Below w.heap.size w w' := by
  rcases h with ⟨⟨rfl, rfl⟩ | ⟨a, cap, rfl, h1, h2, h3⟩, hz⟩
  · exact puts_core none 0 0 [] w rfl (Nat.le_refl _) (by decide) (fun hp => absurd hp (by simp)) hz (.inl ⟨rfl, rfl⟩) hT
  · exact puts_core (some a) L.length cap L w rfl h1 h2 h3 hz (.inr ⟨a, rfl⟩) hT
end Go.Proofs.YtifbkfkieppacaaDoor
