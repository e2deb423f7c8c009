/- The walk of overlap's Reduce. -/
import Derived.Test.YtichhppfdjkgkaaDoorOverRed
namespace Go.Proofs.YtichhppfdjkgkaaDoor
set_option linter.unusedVariables false
open Go.RowKit Pl Go.Shelf

/-- What stands within a round. -/
def Rg (w X : World) (B : Nat) (g : ByteArray) (A : Option Addr) (L : List ByteArray) (v : Value) (m : Nat) (xs : List Value) : Prop :=
  Tabs X ∧ Below w.heap.size w X ∧ RowO X A L ∧ B < X.heap.size ∧ X.cell? ⟨B, 0, none⟩ = some (.string g) ∧ X.ownsRow w.heap.size 9 1 v m xs
theorem rg_step {w X Y : World} {B : Nat} {g : ByteArray} {A : Option Addr} {L : List ByteArray} {v : Value} {m : Nat} {xs : List Value} (h : Hid (Rg w X B g A L v m xs)) (hb : Below X.heap.size X Y) : Hid (Rg w Y B g A L v m xs) := by
  obtain ⟨h1, h2, h3, h4, h5, h6⟩ := h.out
  exact Lib.hid ⟨h1.below hb, h2.trans (hb.mono h2.size), h3.below hb, Nat.lt_of_lt_of_le h4 hb.size, (hb.cell (p := ⟨B, 0, none⟩) h4).trans h5, own_below h6 hb⟩
theorem rowo_take {w : World} {A : Option Addr} {L : List ByteArray} {k : Nat} (h : RowO w A L) : RowO w A (L.take k) := fun hp => by
  obtain ⟨b, o, e, h1, h2⟩ := h (by rw [List.length_take] at hp; omega)
  exact ⟨b, o, e, h1, fun i x hx => h2 i x (by rw [List.getElem?_take] at hx; split at hx; exact hx; cases hx)⟩
theorem rowo_drop {w : World} {b o : Nat} {L : List ByteArray} {k : Nat} (h : RowO w (some ⟨b, o, none⟩) L) : RowO w (some ⟨b, o + k, none⟩) (L.drop k) := fun hp => by
  obtain ⟨b1, o1, e, h1, h2⟩ := h (by rw [List.length_drop] at hp; omega)
  injection e with e
  injection e with e1 e2
  subst e1 e2
  exact ⟨b, o + k, rfl, h1, fun i x hx => by rw [List.getElem?_drop] at hx; rw [Nat.add_assoc]; exact h2 (k + i) x hx⟩

set_option maxHeartbeats 2000000 in
theorem reduce_any (A : Option Addr) (n cap : Nat) (L : List ByteArray) (w : World) (hn : L.length = n) (hm : n ≤ 4096) (hc : n ≤ cap) (hcm : cap ≤ maxLen) (h : RowO w A L) (hz : ∀ x ∈ L, x.size ≤ 140737488351232) (hT : Tabs w) :
    Calls Tryd.prog 20 #[.slice A n cap] w fun e w' => ∃ v, e = .returned v ∧ w'.ownsRow w.heap.size 9 1 v (red L n).length ((red L n).map Value.string) ∧ Below w.heap.size w w' := by
  have H := Lib.hid h
  have HN := Lib.hid hn
  have HZ := Lib.hid hz
  have HT := Lib.hid hT
  obtain ⟨i0, hi, hz0, hz1, hz2⟩ := info_parts info_str
  clear h hn hz hT
  unfold maxLen at hcm
  go_enter Tryd.func20, Tryd.ntmps20
  go_wp2
  go_loopw [3, 11] (fun v i wr => ∃ k : Nat, i = .int .i64 k ∧ k ≤ n ∧ wr.ownsRow w.heap.size 9 1 v (red L k).length ((red L k).map Value.string) ∧ Below w.heap.size w wr) (fun _ i _ => n - (intOf i).toNat)
  case atStart => exact ⟨0, rfl, by omega, World.ownsRow_nil _ _ _ _, Below.refl _ _⟩
  case round =>
    obtain ⟨k, rfl, hk, hown, hbel⟩ := hrel
    by_cases hlt : k < n
    · obtain ⟨b, o, rfl, hl, hcl⟩ := (H.out.below hbel) (by rw [HN.out]; omega)
      obtain ⟨g, hg⟩ : ∃ g, L[k]? = some g := ⟨_, List.getElem?_eq_getElem (by rw [HN.out]; exact hlt)⟩
      have e1 : wr.cell? ⟨b, o + k, none⟩ = some (.string g) := hcl k g hg
      have hgs := HZ.out g (List.mem_of_getElem? hg)
      have hRS := red_succ L k
      have hkp : kpt L k = (filtB g && !((L.take k).any (fun f => cvB f g) || (L.drop (k + 1)).any (fun f => cvB f g && !cvB g f))) := by
        unfold kpt cvd; rw [gt_at hg]
      rw [gt_at hg] at hRS
      obtain ⟨t1, ht1⟩ : ∃ t1, (L.take k).any (fun f => cvB f g) = t1 := ⟨_, rfl⟩
      obtain ⟨t2, ht2⟩ : ∃ t2, (L.drop (k + 1)).any (fun f => cvB f g && !cvB g f) = t2 := ⟨_, rfl⟩
      obtain ⟨t3, ht3⟩ : ∃ t3, filtB g = t3 := ⟨_, rfl⟩
      rw [ht1, ht2, ht3] at hkp
      rw [hkp] at hRS
      obtain ⟨m, hm1⟩ : ∃ m, (red L k).length = m := ⟨_, rfl⟩
      obtain ⟨R, hR⟩ : ∃ R, red L k = R := ⟨_, rfl⟩
      have hml : m ≤ k := by rw [← hm1]; exact red_len L k
      rw [hm1, hR] at hown
      rw [hR] at hRS hm1
      have hnb : Below wr.heap.size wr (wr.alloc (.cells #[.string g] 9)) := (Below.refl _ _).alloc (Nat.le_refl _) _
      have RG : Hid (Rg w (wr.alloc (.cells #[.string g] 9)) wr.heap.size g (some ⟨b, o, none⟩) L u3 m (R.map Value.string)) := Lib.hid ⟨(HT.out.below hbel).below hnb, hbel.trans (hnb.mono hbel.size), (H.out.below hbel).below hnb, by simp, World.cell?_alloc_at _ _ _ _ rfl, own_below hown hnb⟩
      have hA : ∀ X, Hid (Rg w X wr.heap.size g (some ⟨b, o, none⟩) L u3 m (R.map Value.string)) → Calls Tryd.prog 39 #[.slice (some ⟨b, o, none⟩) k cap, .func (.func 40) #[] #[.pointer (some ⟨wr.heap.size, 0, none⟩)]] X fun e w' => e = .returned (.bool t1) ∧ Below X.heap.size X w' := fun X r => by
        rw [← ht1]
        exact containsfunc_any 40 #[] #[.pointer (some ⟨wr.heap.size, 0, none⟩)] (fun f => cvB f g) (some ⟨b, o, none⟩) k cap (L.take k) X (by rw [List.length_take, HN.out]; omega) (by omega) (rowo_take r.out.2.2.1) (enters_of Tryd.func40 (by kernel_rfl) rfl) (fun f Y hf hb => by
          have rY := rg_step r hb
          exact red1_any wr.heap.size f g Y (by have := HZ.out f (List.mem_of_mem_take hf); omega) (by omega) rY.out.1 rY.out.2.2.2.2.1)
      have hB : ∀ A' d c' X, Hid (Rg w X wr.heap.size g (some ⟨b, o, none⟩) L u3 m (R.map Value.string)) → d = n - (k + 1) → (n ≤ k + 1 ∨ A' = some ⟨b, o + (k + 1), none⟩) → Calls Tryd.prog 39 #[.slice A' d c', .func (.func 41) #[] #[.pointer (some ⟨wr.heap.size, 0, none⟩)]] X fun e w' => e = .returned (.bool t2) ∧ Below X.heap.size X w' := fun A' d c' X r hd hA' => by
        subst hd
        rw [← ht2]
        refine containsfunc_any 41 #[] #[.pointer (some ⟨wr.heap.size, 0, none⟩)] (fun f => cvB f g && !cvB g f) A' (n - (k + 1)) c' (L.drop (k + 1)) X (by rw [List.length_drop, HN.out]) (by omega) ?_ (enters_of Tryd.func41 (by kernel_rfl) rfl) (fun f Y hf hb => by
          have rY := rg_step r hb
          exact red2_any wr.heap.size f g Y (by have := HZ.out f (List.mem_of_mem_drop hf); omega) (by omega) rY.out.1 rY.out.2.2.2.1 rY.out.2.2.2.2.1)
        rcases hA' with hA' | rfl
        · intro hp
          rw [List.length_drop, HN.out] at hp
          omega
        · exact rowo_drop r.out.2.2.1
      have hP : ∀ X, Hid (Rg w X wr.heap.size g (some ⟨b, o, none⟩) L u3 m (R.map Value.string)) → Calls Tryd.prog 42 #[.string g] X fun e w' => ∃ A n c p, e = .returned (.tuple #[.agg #[.slice A n c, .bool p], .bool t3]) ∧ Below X.heap.size X w' := fun X r => by
        rw [← ht3]
        refine (parse_any g X (by omega) r.out.1).mono ?_
        rintro e w' ⟨v, rfl, ⟨A, cap, rfl, _⟩, hb⟩
        exact ⟨A, _, cap, _, rfl, hb⟩
      have CA := Lib.hid hA
      have CB := Lib.hid hB
      have CP := Lib.hid hP
      have HRS := Lib.hid hRS
      have HM := Lib.hid hm1
      have hkn : (k : Int) < (n : Int) := by omega
      have hkc : (k : Int) ≤ (cap : Int) := by omega
      have hby : (m + 1) * 16 ≤ 140737488355328 := by omega
      clear hA hB hP hRS hkp ht1 ht2 ht3 hm1 hR hg hcl hnb hown
      by_cases hce : cap = k + 1
      · subst hce
        skip
        cases t1
        · go_wp2_with fail
          refine (CA.out _ RG).mono ?_
          rintro e x1 ⟨rfl, y1⟩
          have R1 := rg_step RG y1
          clear y1
          go_wp2_with fail
          all_goals
            with_reducible refine (CB.out _ _ _ _ R1 ?hd ?ha).mono ?_
            case hd => omega
            case ha => first | exact .inr rfl | exact .inl (by omega)
            rintro e x2 ⟨rfl, y2⟩
            have R2 := rg_step R1 y2
            clear y2
            cases t2
            · cases t3
              · skip
                have cB := R2.out.2.2.2.2.1
                go_wp2_with fail
                refine (CP.out _ R2).mono ?_
                rintro e x3 ⟨A3, n3, c3, p3, rfl, y3⟩
                have R3 := rg_step R2 y3
                clear y3
                have R4 := rg_step R3 ((Below.refl _ _).alloc (Nat.le_refl _) (.cells #[.slice A3 n3 c3, .bool p3] 37))
                obtain ⟨q1, q2, q3, q4, q5, q6⟩ := R4.out
                clear q1 q3 q4 q5
                go_wp2
                go_roundw
                case rel => exact ⟨k + 1, by go_num, by omega, by rw [show red L (k + 1) = R from HRS.out.trans (List.append_nil R), HM.out]; exact q6, q2⟩
                case measure => simp [intOf]; omega
              · skip
                have cB := R2.out.2.2.2.2.1
                go_wp2_with fail
                refine (CP.out _ R2).mono ?_
                rintro e x3 ⟨A3, n3, c3, p3, rfl, y3⟩
                have R3 := rg_step R2 y3
                clear y3
                have R4 := rg_step R3 ((Below.refl _ _).alloc (Nat.le_refl _) (.cells #[.slice A3 n3 c3, .bool p3] 37))
                obtain ⟨q1, q2, q3, q4, q5, q6⟩ := R4.out
                clear q1 q2 q3 q4 q5 q6
                go_upto_region 8 with fail
                obtain ⟨X4, hX4⟩ : ∃ X, x3.alloc (.cells #[.slice A3 n3 c3, .bool p3] 37) = X := ⟨_, rfl⟩
                rw [hX4] at R4 ⊢
                clear hX4
                obtain ⟨q1, q2, q3, q4, q5, q6⟩ := R4.out
                go_wp2_with (at_builtin; refine wpList_push (.tmp 39) (.tmp 41) 29 9 i0 (.string ⟨#[]⟩) 16 rfl rfl Tryd.underlying29 hi hz0 hz1 hz2 rfl w.heap.size _ m (R.map Value.string) (.string g) rfl rfl q6 q2 q2.size rfl (by simp [maxLen]; omega) hby ?_; intro v' w5 hown5 hbel5 hs5 hn5)
                go_roundw
                case rel => exact ⟨k + 1, by go_num, by omega, by rw [show red L (k + 1) = R ++ [g] from HRS.out, List.length_append, List.map_append, HM.out]; exact hown5, hbel5⟩
                case measure => simp [intOf]; omega
            · cases t3
              · skip
                have cB := R2.out.2.2.2.2.1
                go_wp2_with fail
                refine (CP.out _ R2).mono ?_
                rintro e x3 ⟨A3, n3, c3, p3, rfl, y3⟩
                have R3 := rg_step R2 y3
                clear y3
                have R4 := rg_step R3 ((Below.refl _ _).alloc (Nat.le_refl _) (.cells #[.slice A3 n3 c3, .bool p3] 37))
                obtain ⟨q1, q2, q3, q4, q5, q6⟩ := R4.out
                clear q1 q3 q4 q5
                go_wp2
                go_roundw
                case rel => exact ⟨k + 1, by go_num, by omega, by rw [show red L (k + 1) = R from HRS.out.trans (List.append_nil R), HM.out]; exact q6, q2⟩
                case measure => simp [intOf]; omega
              · skip
                have cB := R2.out.2.2.2.2.1
                go_wp2_with fail
                refine (CP.out _ R2).mono ?_
                rintro e x3 ⟨A3, n3, c3, p3, rfl, y3⟩
                have R3 := rg_step R2 y3
                clear y3
                have R4 := rg_step R3 ((Below.refl _ _).alloc (Nat.le_refl _) (.cells #[.slice A3 n3 c3, .bool p3] 37))
                obtain ⟨q1, q2, q3, q4, q5, q6⟩ := R4.out
                clear q1 q3 q4 q5
                go_wp2
                go_roundw
                case rel => exact ⟨k + 1, by go_num, by omega, by rw [show red L (k + 1) = R from HRS.out.trans (List.append_nil R), HM.out]; exact q6, q2⟩
                case measure => simp [intOf]; omega
        · go_wp2_with fail
          refine (CA.out _ RG).mono ?_
          rintro e x1 ⟨rfl, y1⟩
          have R1 := rg_step RG y1
          clear y1
          cases t3
          · skip
            have cB := R1.out.2.2.2.2.1
            go_wp2_with fail
            refine (CP.out _ R1).mono ?_
            rintro e x3 ⟨A3, n3, c3, p3, rfl, y3⟩
            have R3 := rg_step R1 y3
            clear y3
            have R4 := rg_step R3 ((Below.refl _ _).alloc (Nat.le_refl _) (.cells #[.slice A3 n3 c3, .bool p3] 37))
            obtain ⟨q1, q2, q3, q4, q5, q6⟩ := R4.out
            clear q1 q3 q4 q5
            go_wp2
            go_roundw
            case rel => exact ⟨k + 1, by go_num, by omega, by rw [show red L (k + 1) = R from HRS.out.trans (List.append_nil R), HM.out]; exact q6, q2⟩
            case measure => simp [intOf]; omega
          · skip
            have cB := R1.out.2.2.2.2.1
            go_wp2_with fail
            refine (CP.out _ R1).mono ?_
            rintro e x3 ⟨A3, n3, c3, p3, rfl, y3⟩
            have R3 := rg_step R1 y3
            clear y3
            have R4 := rg_step R3 ((Below.refl _ _).alloc (Nat.le_refl _) (.cells #[.slice A3 n3 c3, .bool p3] 37))
            obtain ⟨q1, q2, q3, q4, q5, q6⟩ := R4.out
            clear q1 q3 q4 q5
            go_wp2
            go_roundw
            case rel => exact ⟨k + 1, by go_num, by omega, by rw [show red L (k + 1) = R from HRS.out.trans (List.append_nil R), HM.out]; exact q6, q2⟩
            case measure => simp [intOf]; omega
      · skip
        cases t1
        · go_wp2_with fail
          refine (CA.out _ RG).mono ?_
          rintro e x1 ⟨rfl, y1⟩
          have R1 := rg_step RG y1
          clear y1
          go_wp2_with fail
          all_goals
            with_reducible refine (CB.out _ _ _ _ R1 ?hd ?ha).mono ?_
            case hd => omega
            case ha => first | exact .inr rfl | exact .inl (by omega)
            rintro e x2 ⟨rfl, y2⟩
            have R2 := rg_step R1 y2
            clear y2
            cases t2
            · cases t3
              · skip
                have cB := R2.out.2.2.2.2.1
                go_wp2_with fail
                refine (CP.out _ R2).mono ?_
                rintro e x3 ⟨A3, n3, c3, p3, rfl, y3⟩
                have R3 := rg_step R2 y3
                clear y3
                have R4 := rg_step R3 ((Below.refl _ _).alloc (Nat.le_refl _) (.cells #[.slice A3 n3 c3, .bool p3] 37))
                obtain ⟨q1, q2, q3, q4, q5, q6⟩ := R4.out
                clear q1 q3 q4 q5
                go_wp2
                go_roundw
                case rel => exact ⟨k + 1, by go_num, by omega, by rw [show red L (k + 1) = R from HRS.out.trans (List.append_nil R), HM.out]; exact q6, q2⟩
                case measure => simp [intOf]; omega
              · skip
                have cB := R2.out.2.2.2.2.1
                go_wp2_with fail
                refine (CP.out _ R2).mono ?_
                rintro e x3 ⟨A3, n3, c3, p3, rfl, y3⟩
                have R3 := rg_step R2 y3
                clear y3
                have R4 := rg_step R3 ((Below.refl _ _).alloc (Nat.le_refl _) (.cells #[.slice A3 n3 c3, .bool p3] 37))
                obtain ⟨q1, q2, q3, q4, q5, q6⟩ := R4.out
                clear q1 q2 q3 q4 q5 q6
                go_upto_region 8 with fail
                obtain ⟨X4, hX4⟩ : ∃ X, x3.alloc (.cells #[.slice A3 n3 c3, .bool p3] 37) = X := ⟨_, rfl⟩
                rw [hX4] at R4 ⊢
                clear hX4
                obtain ⟨q1, q2, q3, q4, q5, q6⟩ := R4.out
                go_wp2_with (at_builtin; refine wpList_push (.tmp 39) (.tmp 41) 29 9 i0 (.string ⟨#[]⟩) 16 rfl rfl Tryd.underlying29 hi hz0 hz1 hz2 rfl w.heap.size _ m (R.map Value.string) (.string g) rfl rfl q6 q2 q2.size rfl (by simp [maxLen]; omega) hby ?_; intro v' w5 hown5 hbel5 hs5 hn5)
                go_roundw
                case rel => exact ⟨k + 1, by go_num, by omega, by rw [show red L (k + 1) = R ++ [g] from HRS.out, List.length_append, List.map_append, HM.out]; exact hown5, hbel5⟩
                case measure => simp [intOf]; omega
            · cases t3
              · skip
                have cB := R2.out.2.2.2.2.1
                go_wp2_with fail
                refine (CP.out _ R2).mono ?_
                rintro e x3 ⟨A3, n3, c3, p3, rfl, y3⟩
                have R3 := rg_step R2 y3
                clear y3
                have R4 := rg_step R3 ((Below.refl _ _).alloc (Nat.le_refl _) (.cells #[.slice A3 n3 c3, .bool p3] 37))
                obtain ⟨q1, q2, q3, q4, q5, q6⟩ := R4.out
                clear q1 q3 q4 q5
                go_wp2
                go_roundw
                case rel => exact ⟨k + 1, by go_num, by omega, by rw [show red L (k + 1) = R from HRS.out.trans (List.append_nil R), HM.out]; exact q6, q2⟩
                case measure => simp [intOf]; omega
              · skip
                have cB := R2.out.2.2.2.2.1
                go_wp2_with fail
                refine (CP.out _ R2).mono ?_
                rintro e x3 ⟨A3, n3, c3, p3, rfl, y3⟩
                have R3 := rg_step R2 y3
                clear y3
                have R4 := rg_step R3 ((Below.refl _ _).alloc (Nat.le_refl _) (.cells #[.slice A3 n3 c3, .bool p3] 37))
                obtain ⟨q1, q2, q3, q4, q5, q6⟩ := R4.out
                clear q1 q3 q4 q5
                go_wp2
                go_roundw
                case rel => exact ⟨k + 1, by go_num, by omega, by rw [show red L (k + 1) = R from HRS.out.trans (List.append_nil R), HM.out]; exact q6, q2⟩
                case measure => simp [intOf]; omega
        · go_wp2_with fail
          refine (CA.out _ RG).mono ?_
          rintro e x1 ⟨rfl, y1⟩
          have R1 := rg_step RG y1
          clear y1
          cases t3
          · skip
            have cB := R1.out.2.2.2.2.1
            go_wp2_with fail
            refine (CP.out _ R1).mono ?_
            rintro e x3 ⟨A3, n3, c3, p3, rfl, y3⟩
            have R3 := rg_step R1 y3
            clear y3
            have R4 := rg_step R3 ((Below.refl _ _).alloc (Nat.le_refl _) (.cells #[.slice A3 n3 c3, .bool p3] 37))
            obtain ⟨q1, q2, q3, q4, q5, q6⟩ := R4.out
            clear q1 q3 q4 q5
            go_wp2
            go_roundw
            case rel => exact ⟨k + 1, by go_num, by omega, by rw [show red L (k + 1) = R from HRS.out.trans (List.append_nil R), HM.out]; exact q6, q2⟩
            case measure => simp [intOf]; omega
          · skip
            have cB := R1.out.2.2.2.2.1
            go_wp2_with fail
            refine (CP.out _ R1).mono ?_
            rintro e x3 ⟨A3, n3, c3, p3, rfl, y3⟩
            have R3 := rg_step R1 y3
            clear y3
            have R4 := rg_step R3 ((Below.refl _ _).alloc (Nat.le_refl _) (.cells #[.slice A3 n3 c3, .bool p3] 37))
            obtain ⟨q1, q2, q3, q4, q5, q6⟩ := R4.out
            clear q1 q3 q4 q5
            go_wp2
            go_roundw
            case rel => exact ⟨k + 1, by go_num, by omega, by rw [show red L (k + 1) = R from HRS.out.trans (List.append_nil R), HM.out]; exact q6, q2⟩
            case measure => simp [intOf]; omega
    · have hkn : k = n := by omega
      subst hkn
      go_wp2
      go_ret
      exact ⟨_, rfl, hown, hbel⟩
theorem own_rowo {w : World} {base m : Nat} {e : TypeId} {v : Value} {ss : List ByteArray} (h : w.ownsRow base e 1 v m (ss.map Value.string)) (hm : m = ss.length) : ∃ A cap, v = .slice A m cap ∧ m ≤ cap ∧ RowO w A ss := by
  subst hm
  rcases h.2 with ⟨rfl, h0⟩ | ⟨g, cap, cur, rfl, _, hh, hnc, _⟩
  · exact ⟨none, 0, by rw [h0], by omega, fun hp => absurd hp (by omega)⟩
  · refine ⟨_, cap, rfl, hnc, fun _ => ⟨g, 0, rfl, (h.lt g rfl).2, fun k x hx => ?_⟩⟩
    have hk := (List.getElem?_eq_some_iff.1 hx).1
    rw [Nat.zero_add, h.cellAt k (by omega), List.getElem?_map, hx]; rfl
end Go.Proofs.YtichhppfdjkgkaaDoor
