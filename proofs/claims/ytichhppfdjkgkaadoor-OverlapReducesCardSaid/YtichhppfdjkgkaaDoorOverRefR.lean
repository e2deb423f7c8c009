/- The walk of the document's Reduce (under way). -/
import Derived.Test.YtichhppfdjkgkaaDoorOverRed2
import Derived.Deep.RegionHeld3
namespace Go.Proofs.YtichhppfdjkgkaaDoor
set_option linter.unusedVariables false
open Go.RowKit Pl Go.Shelf

def Rh (w X : World) (A : Option Addr) (L : List ByteArray) (v : Value) (m : Nat) (xs : List Value) : Prop :=
  Below w.heap.size w X ∧ RowO X A L ∧ X.ownsRow w.heap.size 9 1 v m xs
theorem rh_step {w X Y : World} {A : Option Addr} {L : List ByteArray} {v : Value} {m : Nat} {xs : List Value} (h : Hid (Rh w X A L v m xs)) (hb : Below X.heap.size X Y) : Hid (Rh w Y A L v m xs) := by
  obtain ⟨h2, h3, h6⟩ := h.out
  exact Lib.hid ⟨h2.trans (hb.mono h2.size), h3.below hb, own_below h6 hb⟩
theorem rh_cell {w X : World} {b o : Nat} {L : List ByteArray} {v : Value} {m : Nat} {xs : List Value} (h : Hid (Rh w X (some ⟨b, o, none⟩) L v m xs)) {k : Nat} {f : ByteArray} (hf : L[k]? = some f) : X.cell? ⟨b, o + k, none⟩ = some (.string f) := by
  obtain ⟨b1, o1, e, _, h2⟩ := h.out.2.1 (by have := (List.getElem?_eq_some_iff.1 hf).1; omega)
  injection e with e
  injection e with e1 e2
  subst e1 e2
  exact h2 k f hf
abbrev S2 (X : World) (b p q : Nat) (f g : ByteArray) : Prop := X.cell? ⟨b, p, none⟩ = some (.string f) ∧ X.cell? ⟨b, q, none⟩ = some (.string g)

set_option maxHeartbeats 4000000 in
theorem refreduce_any (A : Option Addr) (n cap : Nat) (L : List ByteArray) (w : World) (hn : L.length = n) (hm : n ≤ 4096) (h : RowO w A L) (hz : ∀ x ∈ L, x.size ≤ 140737488351232) :
    Calls Tryd.prog 21 #[.slice A n cap] w fun e w' => ∃ v, e = .returned v ∧ w'.ownsRow w.heap.size 9 1 v (red L n).length ((red L n).map Value.string) ∧ Below w.heap.size w w' := by
  have H := Lib.hid h
  have HN := Lib.hid hn
  have HZ := Lib.hid hz
  obtain ⟨i0, hi, hz0, hz1, hz2⟩ := info_parts info_str
  clear h hn hz
  go_enter Tryd.func21, Tryd.ntmps21
  go_wp2
  go_loopw [3, 4] (fun v iv wr => ∃ i : Nat, iv = .int .i64 i ∧ i ≤ n ∧ wr.ownsRow w.heap.size 9 1 v (red L i).length ((red L i).map Value.string) ∧ Below w.heap.size w wr) (fun _ i _ => n - (intOf i).toNat)
  case atStart => exact ⟨0, rfl, by omega, World.ownsRow_nil _ _ _ _, Below.refl _ _⟩
  case round =>
    obtain ⟨i, rfl, hk, hown, hbel⟩ := hrel
    by_cases hlt : i < n
    · obtain ⟨b, o, rfl, hl, hcl⟩ := (H.out.below hbel) (by rw [HN.out]; omega)
      obtain ⟨g, hg⟩ : ∃ g, L[i]? = some g := ⟨_, List.getElem?_eq_getElem (by rw [HN.out]; exact hlt)⟩
      have e1 : wr.cell? ⟨b, o + i, none⟩ = some (.string g) := hcl i g hg
      have hgs := HZ.out g (List.mem_of_getElem? hg)
      have hRS := red_succ L i
      have hkp : kpt L i = (filtB g && !cvr L i n) := by
        rw [← HN.out, cvr_eq (by rw [HN.out]; exact hlt)]; unfold kpt; rw [gt_at hg]
      rw [gt_at hg] at hRS
      obtain ⟨t3, ht3⟩ : ∃ t3, filtB g = t3 := ⟨_, rfl⟩
      rw [ht3] at hkp
      rw [hkp] at hRS
      obtain ⟨m, hm1⟩ : ∃ m, (red L i).length = m := ⟨_, rfl⟩
      obtain ⟨R, hR⟩ : ∃ R, red L i = R := ⟨_, rfl⟩
      have hml : m ≤ i := by rw [← hm1]; exact red_len L i
      rw [hm1, hR] at hown
      rw [hR] at hRS hm1
      obtain ⟨r, hr, hr2, hr0, hr1⟩ : ∃ r : Int, filtC g = r ∧ (r != 0) = !t3 ∧ 0 ≤ r ∧ r ≤ 255 := by
        cases t3
        · exact ⟨143, filtC_bad ht3, rfl, by decide, by decide⟩
        · exact ⟨0, filtC_ok ht3, rfl, by decide, by decide⟩
      have CK := refcheckfilter_any g wr (by omega)
      rw [hr] at CK
      have CK := Lib.hid CK
      have RH : Hid (Rh w wr (some ⟨b, o, none⟩) L u3 m (R.map Value.string)) := Lib.hid ⟨hbel, H.out.below hbel, hown⟩
      have HRS := Lib.hid hRS
      have HM := Lib.hid hm1
      have HG := Lib.hid hg
      have hin : (i : Int) < (n : Int) := by omega
      have hby : (m + 1) * 16 ≤ 140737488355328 := by omega
      clear hRS hkp ht3 hm1 hR hcl hown hr hg
      cases t3
      · go_wp2_with fail
        refine CK.out.mono ?_
        rintro e x1 ⟨rfl, y1⟩
        have R1 := rh_step RH y1
        clear y1 RH
        go_wp2
        go_roundw
        case rel => exact ⟨i + 1, by go_num, by omega, by rw [show red L (i + 1) = R from HRS.out.trans (List.append_nil R), HM.out]; exact R1.out.2.2, R1.out.1⟩
        case measure => simp [intOf]; omega
      · go_wp2_with fail
        refine CK.out.mono ?_
        rintro e x1 ⟨rfl, y1⟩
        have R1 := rh_step RH y1
        clear y1 RH e1
        go_wp2
        go_loopw [6, 7] (fun c kv X => ∃ k : Nat, kv = .int .i64 k ∧ k ≤ n ∧ c = .bool (cvr L i k) ∧ Hid (Rh w X (some ⟨b, o, none⟩) L u3 m (R.map Value.string))) (fun _ k _ => n - (intOf k).toNat)
        case atStart => exact ⟨0, rfl, by omega, rfl, by with_reducible assumption⟩
        case round =>
          obtain ⟨k, rfl, hkk, rfl, rk⟩ := hrel
          by_cases hlk : k < n
          · obtain ⟨f, hf⟩ : ∃ f, L[k]? = some f := ⟨_, List.getElem?_eq_getElem (by rw [HN.out]; exact hlk)⟩
            have hfs := HZ.out f (List.mem_of_getElem? hf)
            obtain ⟨x, hx⟩ : ∃ x, cvB f g = x := ⟨_, rfl⟩
            obtain ⟨y, hy⟩ : ∃ y, cvB g f = y := ⟨_, rfl⟩
            have CV1 : ∀ X, Hid (Rh w X (some ⟨b, o, none⟩) L u3 m (R.map Value.string)) → Calls Tryd.prog 19 #[.string f, .string g] X fun e w' => e = .returned (.bool x) ∧ Below X.heap.size X w' := fun X _ => by rw [← hx, ← refCv_eq]; exact refcovers_any f g X (by omega) (by omega)
            have CV2 : ∀ X, Hid (Rh w X (some ⟨b, o, none⟩) L u3 m (R.map Value.string)) → Calls Tryd.prog 19 #[.string g, .string f] X fun e w' => e = .returned (.bool y) ∧ Below X.heap.size X w' := fun X _ => by rw [← hy, ← refCv_eq]; exact refcovers_any g f X (by omega) (by omega)
            have hct : cvt L i k = (!(k == i) && (x && (!y || decide (k < i)))) := by unfold cvt; rw [gt_at hf, gt_at HG.out, hx, hy]
            have HF := Lib.hid hf
            have HCT := Lib.hid hct
            have CV1 := Lib.hid CV1
            have CV2 := Lib.hid CV2
            have s0 : S2 wr b (o + k) (o + i) f g := ⟨rh_cell rk hf, rh_cell rk HG.out⟩
            have rkd : Hid (Rh w wr.drew (some ⟨b, o, none⟩) L u3 m (R.map Value.string)) := rh_step rk (Below.refl _ _).drew
            have s0d : S2 wr.drew b (o + k) (o + i) f g := ⟨rh_cell rkd hf, rh_cell rkd HG.out⟩
            have hkn : (k : Int) < (n : Int) := by omega
            obtain ⟨c0, hc0⟩ : ∃ c0, cvr L i k = c0 := ⟨_, rfl⟩
            rw [hc0]
            have HC0 := Lib.hid hc0
            clear hf hx hy hct hc0
            go_wp2
            go_region_held3 (fun X => S2 X b (o + k) (o + i) f g) (with_reducible assumption) (first | (go_at_call 19; (with_reducible refine (CV1.out _ (by with_reducible assumption)).mono ?_); rintro e xa ⟨rfl, ya⟩; have ra : Hid (Rh w xa (some ⟨b, o, none⟩) L u3 m (R.map Value.string)) := rh_step (by with_reducible assumption) ya; have sa : S2 xa b (o + k) (o + i) f g := ⟨rh_cell ra HF.out, rh_cell ra HG.out⟩) | (fail))
            all_goals clear s0 s0d rk rkd
            all_goals go_wp2_with fail
            all_goals
              have rad : Hid (Rh w xa.drew (some ⟨b, o, none⟩) L u3 m (R.map Value.string)) := rh_step ra (Below.refl _ _).drew
              have sad : S2 xa.drew b (o + k) (o + i) f g := ⟨rh_cell rad HF.out, rh_cell rad HG.out⟩
              go_region_held3 (fun X => S2 X b (o + k) (o + i) f g) (with_reducible assumption) (first | (go_at_call 19; (with_reducible refine (CV2.out _ (by with_reducible assumption)).mono ?_); rintro e xb ⟨rfl, yb⟩; have rb : Hid (Rh w xb (some ⟨b, o, none⟩) L u3 m (R.map Value.string)) := rh_step (by with_reducible assumption) yb; have sb : S2 xb b (o + k) (o + i) f g := ⟨rh_cell rb HF.out, rh_cell rb HG.out⟩) | (fail))
            all_goals clear ra sa rad sad
            all_goals
              by_cases hki : k = i
              · have z1 : ((k : Int) != (i : Int)) = false := by rw [hki]; simp
                have hz : (k == i) = true := by rw [hki]; simp
                rw [hz] at HCT
                clear hki hz
                go_wp2
                go_roundw
                case rel => exact ⟨k + 1, by go_num, by omega, by rw [cvr_succ, HC0.out, HCT.out]; simp, by with_reducible assumption⟩
                case measure => simp [intOf]; omega
              · have z1 : ((k : Int) != (i : Int)) = true := by rw [bne_iff_ne]; omega
                have hz : (k == i) = false := beq_eq_false_iff_ne.2 hki
                rw [hz] at HCT
                clear hz
                cases x
                · skip
                  clear hki
                  go_wp2
                  go_roundw
                  case rel => exact ⟨k + 1, by go_num, by omega, by rw [cvr_succ, HC0.out, HCT.out]; simp, by with_reducible assumption⟩
                  case measure => simp [intOf]; omega
                · cases y
                  · skip
                    clear hki
                    go_wp2
                    go_roundw
                    case rel => exact ⟨k + 1, by go_num, by omega, by rw [cvr_succ, HC0.out, HCT.out]; simp, by with_reducible assumption⟩
                    case measure => simp [intOf]; omega
                  · by_cases hlt2 : k < i
                    · have z2 : (k : Int) < (i : Int) := by omega
                      have hz : decide (k < i) = true := decide_eq_true hlt2
                      rw [hz] at HCT
                      clear hz hlt2 hki
                      go_wp2
                      go_roundw
                      case rel => exact ⟨k + 1, by go_num, by omega, by rw [cvr_succ, HC0.out, HCT.out]; simp, by with_reducible assumption⟩
                      case measure => simp [intOf]; omega
                    · have z2 : ¬ (k : Int) < (i : Int) := by omega
                      have hz : decide (k < i) = false := decide_eq_false hlt2
                      rw [hz] at HCT
                      clear hz hlt2 hki
                      go_wp2
                      go_roundw
                      case rel => exact ⟨k + 1, by go_num, by omega, by rw [cvr_succ, HC0.out, HCT.out]; simp, by with_reducible assumption⟩
                      case measure => simp [intOf]; omega
          · have hkn : k = n := by omega
            subst hkn
            obtain ⟨c0, hc0⟩ : ∃ c0, cvr L i k = c0 := ⟨_, rfl⟩
            rw [hc0] at HRS ⊢
            clear hc0
            cases c0
            · obtain ⟨q1, q2, q3⟩ := rk.out
              have eC := rh_cell rk HG.out
              go_wp2_with (at_builtin; refine wpList_push (.tmp 64) (.tmp 69) 29 9 i0 (.string ⟨#[]⟩) 16 rfl rfl Tryd.underlying29 hi hz0 hz1 hz2 rfl w.heap.size _ m (R.map Value.string) (.string g) rfl rfl q3 q1 q1.size rfl (by simp [maxLen]; omega) hby ?_; intro v' w5 hown5 hbel5 hs5 hn5)
              go_roundw
              case rel => exact ⟨i + 1, by go_num, by omega, by rw [show red L (i + 1) = R ++ [g] from HRS.out, List.length_append, List.map_append, HM.out]; exact hown5, hbel5⟩
              case measure => simp [intOf]; omega
            · go_wp2
              go_roundw
              case rel => exact ⟨i + 1, by go_num, by omega, by rw [show red L (i + 1) = R from HRS.out.trans (List.append_nil R), HM.out]; exact rk.out.2.2, rk.out.1⟩
              case measure => simp [intOf]; omega
    · have hkn : i = n := by omega
      subst hkn
      go_wp2
      go_ret
      exact ⟨_, rfl, hown, hbel⟩
end Go.Proofs.YtichhppfdjkgkaaDoor
