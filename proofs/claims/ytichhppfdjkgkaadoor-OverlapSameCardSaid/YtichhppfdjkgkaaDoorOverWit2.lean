/- The walk of overlap's Witness (under way). -/
import Derived.Test.YtichhppfdjkgkaaDoorOverWitP
import Derived.Deep.RegionHeld3
import Derived.Deep.DeepCutAuto
namespace Go.Proofs.YtichhppfdjkgkaaDoor
set_option linter.unusedVariables false
open Go.RowKit Pl Go.Shelf

/-- What lies in the two blocks. -/
abbrev S4 (w' : World) (P Q : Nat) (A : Option Addr) (n c : Nat) (p : Bool) (A' : Option Addr) (n' c' : Nat) (p' : Bool) : Prop :=
  w'.cell? ⟨P, 0, none⟩ = some (.slice A n c) ∧ w'.cell? ⟨P, 1, none⟩ = some (.bool p) ∧ w'.cell? ⟨Q, 0, none⟩ = some (.slice A' n' c') ∧ w'.cell? ⟨Q, 1, none⟩ = some (.bool p')
/-- What is kept. -/
def Kp (w W : World) (P Q : Nat) (A : Option Addr) (n c : Nat) (p : Bool) (A' : Option Addr) (n' c' : Nat) (p' : Bool) (s t : Sh) : Prop :=
  ShA W (.agg #[.slice A n c, .bool p]) s ∧ ShA W (.agg #[.slice A' n' c', .bool p']) t ∧ Below w.heap.size w W ∧ P < W.heap.size ∧ Q < W.heap.size ∧ S4 W P Q A n c p A' n' c' p'
theorem Kp.below {w W W' : World} {P Q : Nat} {A : Option Addr} {n c : Nat} {p : Bool} {A' : Option Addr} {n' c' : Nat} {p' : Bool} {s t : Sh} (h : Kp w W P Q A n c p A' n' c' p' s t) (hb : Below W.heap.size W W') : Kp w W' P Q A n c p A' n' c' p' s t := by
  obtain ⟨h1, h2, h3, h4, h5, h6, h7, h8, h9⟩ := h
  exact ⟨h1.below hb, h2.below hb, h3.trans (hb.mono h3.size), Nat.lt_of_lt_of_le h4 hb.size, Nat.lt_of_lt_of_le h5 hb.size, (hb.cell (p := ⟨P, 0, none⟩) h4).trans h6, (hb.cell (p := ⟨P, 1, none⟩) h4).trans h7, (hb.cell (p := ⟨Q, 0, none⟩) h5).trans h8, (hb.cell (p := ⟨Q, 1, none⟩) h5).trans h9⟩
theorem Kp.drew {w W : World} {P Q : Nat} {A : Option Addr} {n c : Nat} {p : Bool} {A' : Option Addr} {n' c' : Nat} {p' : Bool} {s t : Sh} (h : Kp w W P Q A n c p A' n' c' p' s t) : Kp w W.drew P Q A n c p A' n' c' p' s t := h.below (Below.refl _ _).drew
theorem kp_hid {w W W' : World} {P Q : Nat} {A : Option Addr} {n c : Nat} {p : Bool} {A' : Option Addr} {n' c' : Nat} {p' : Bool} {s t : Sh} (h : Hid (Kp w W P Q A n c p A' n' c' p' s t)) (hb : Below W.heap.size W W') : Hid (Kp w W' P Q A n c p A' n' c' p' s t) := Lib.hid (h.out.below hb)
/-- Two shapes as they stand in two new blocks. -/
theorem kp_new {w w1 : World} {A : Option Addr} {n c : Nat} {p : Bool} {A' : Option Addr} {n' c' : Nat} {p' : Bool} {s t : Sh} (h1 : ShA w1 (.agg #[.slice A n c, .bool p]) s) (h2 : ShA w1 (.agg #[.slice A' n' c', .bool p']) t) (hb : Below w.heap.size w w1) (e e' : TypeId) :
    Kp w ((w1.alloc (.cells #[.slice A n c, .bool p] e)).alloc (.cells #[.slice A' n' c', .bool p'] e')) w1.heap.size (w1.heap.size + 1) A n c p A' n' c' p' s t := by
  have b : Below w1.heap.size w1 ((w1.alloc (.cells #[.slice A n c, .bool p] e)).alloc (.cells #[.slice A' n' c', .bool p'] e')) := ((Below.refl _ _).alloc (Nat.le_refl _) _).alloc (by simp) _
  refine ⟨h1.below b, h2.below b, hb.trans (b.mono hb.size), by simp; omega, by simp, ?_, ?_, ?_, ?_⟩
  · rw [World.cell?_alloc_past _ _ _ (by simp), World.cell?_alloc_at _ _ _ _ rfl]; rfl
  · rw [World.cell?_alloc_past _ _ _ (by simp), World.cell?_alloc_at _ _ _ _ rfl]; rfl
  · rw [World.cell?_alloc_at _ _ _ _ (by simp)]; rfl
  · rw [World.cell?_alloc_at _ _ _ _ (by simp)]; rfl

set_option maxHeartbeats 2000000 in
theorem witness_any (F G : ByteArray) (w : World) (hF : F.size ≤ 281474976710656) (hG : G.size ≤ 281474976710656) (hT : Tabs w) :
    Calls Tryd.prog 13 #[.string F, .string G] w fun e w' => e = .returned (.tuple #[.string (if ovB F G then witS F G else ⟨#[]⟩), .bool (ovB F G)]) ∧ Below w.heap.size w w' := by
  have C2 := Lib.hid (two_any F G w hF hG hT)
  obtain ⟨r, hr⟩ : ∃ r, (Value.tuple #[.string (if ovB F G then witS F G else ⟨#[]⟩), .bool (ovB F G)]) = r := ⟨_, rfl⟩
  rw [hr]
  have HR := Lib.hid hr
  have HT := Lib.hid hT
  clear hr hT
  go_enter Tryd.func13, Tryd.ntmps13
  go_wp2_with fail
  refine C2.out.mono ?_
  rintro e w1 ⟨u, v, rfl, hu, hv, b1⟩
  obtain ⟨A, n, c, p, rfl⟩ : ∃ A n c p, u = .agg #[.slice A n c, .bool p] := by
    obtain ⟨A, c, rfl, _⟩ := hu
    exact ⟨_, _, _, _, rfl⟩
  obtain ⟨A', n', c', p', rfl⟩ : ∃ A n c p, v = .agg #[.slice A n c, .bool p] := by
    obtain ⟨A, c, rfl, _⟩ := hv
    exact ⟨_, _, _, _, rfl⟩
  obtain ⟨ok, hok⟩ : ∃ ok, (filtB F && filtB G) = ok := ⟨_, rfl⟩
  rw [hok]
  have HOK := Lib.hid hok
  have K0 := Lib.hid (kp_new (w := w) hu hv b1 37 37)
  obtain ⟨s, hs⟩ : ∃ s, shp F = s := ⟨_, rfl⟩
  obtain ⟨t, ht⟩ : ∃ t, shp G = t := ⟨_, rfl⟩
  rw [hs, ht] at K0
  have HS := Lib.hid hs
  have HTT := Lib.hid ht
  clear hok hs ht hu hv b1
  go_wp2_with fail
  obtain ⟨W, hW⟩ : ∃ W, (w1.alloc (.cells #[.slice A n c, .bool p] 37)).alloc (.cells #[.slice A' n' c', .bool p'] 37) = W := ⟨_, rfl⟩
  rw [hW] at K0
  (try rw [hW])
  clear hW
  obtain ⟨P, hP⟩ : ∃ P, w1.heap.size = P := ⟨_, rfl⟩
  obtain ⟨Q, hQ⟩ : ∃ Q, P + 1 = Q := ⟨_, rfl⟩
  (try rw [hP])
  (try rw [hQ])
  rw [hP, hQ] at K0
  clear hP hQ
  have CL1 : ∀ X, Hid (Kp w X P Q A n c p A' n' c' p' s t) → Calls Tryd.prog 27 #[.agg #[.slice A n c, .bool p]] X fun e w' => e = .returned (.int .i64 (lst s.lv)) ∧ Below X.heap.size X w' := fun X h => least_any _ s X h.out.1
  have CL2 : ∀ X, Hid (Kp w X P Q A n c p A' n' c' p' s t) → Calls Tryd.prog 27 #[.agg #[.slice A' n' c', .bool p']] X fun e w' => e = .returned (.int .i64 (lst t.lv)) ∧ Below X.heap.size X w' := fun X h => least_any _ t X h.out.2.1
  have CL1 := Lib.hid CL1
  have CL2 := Lib.hid CL2
  have z0 := K0.out.2.2.1.size
  have s0 : S4 W P Q A n c p A' n' c' p' := K0.out.2.2.2.2.2
  have K0d : Hid (Kp w W.drew P Q A n c p A' n' c' p' s t) := kp_hid K0 (Below.refl _ _).drew
  have s0d : S4 W.drew P Q A n c p A' n' c' p' := K0d.out.2.2.2.2.2
  go_cut [9] (fun m X => m = .int .i64 (witN s t) ∧ Hid (Kp w X P Q A n c p A' n' c' p' s t))
  case first =>
    go_region_held3 (fun X => S4 X P Q A n c p A' n' c' p') (with_reducible assumption)
      (first | (go_at_call 27; (with_reducible refine (CL1.out _ (by with_reducible assumption)).mono ?_); rintro e wa ⟨rfl, ba⟩; have ka : Hid (Kp w wa P Q A n c p A' n' c' p' s t) := kp_hid (by with_reducible assumption) ba; have sa : S4 wa P Q A n c p A' n' c' p' := ka.out.2.2.2.2.2) | (go_at_call 27; (with_reducible refine (CL2.out _ (by with_reducible assumption)).mono ?_); rintro e wb ⟨rfl, bb⟩; have kb : Hid (Kp w wb P Q A n c p A' n' c' p' s t) := kp_hid (by with_reducible assumption) bb; have sb : S4 wb P Q A n c p A' n' c' p' := kb.out.2.2.2.2.2))
    all_goals (go_wp2_with fail; go_meet)
    all_goals exact ⟨by rw [show ((witN s t : Nat) : Int) = max (lst s.lv : Int) (lst t.lv : Int) from by unfold witN; omega], by with_reducible assumption⟩
  case rest =>
    obtain ⟨rfl, kc⟩ := hcut
    clear K0 K0d s0 s0d CL1 CL2 z0
    obtain ⟨e1, e2, e3, e4⟩ := kc.out.2.2.2.2.2
    obtain ⟨a1, hCT1⟩ : ∃ b, tks s (witN s t) = b := ⟨_, rfl⟩
    obtain ⟨a2, hCT2⟩ : ∃ b, tks t (witN s t) = b := ⟨_, rfl⟩
    obtain ⟨g1, hCW1⟩ : ∃ b, wld s.lv = b := ⟨_, rfl⟩
    obtain ⟨g2, hCW2⟩ : ∃ b, wld t.lv = b := ⟨_, rfl⟩
    obtain ⟨d1, hCD1⟩ : ∃ b, dlr s.lv = b := ⟨_, rfl⟩
    obtain ⟨d2, hCD2⟩ : ∃ b, dlr t.lv = b := ⟨_, rfl⟩
    have CT1 : ∀ X, Hid (Kp w X P Q A n c p A' n' c' p' s t) → Calls Tryd.prog 28 #[.agg #[.slice A n c, .bool p], .int .i64 (witN s t)] X fun e w' => e = .returned (.bool a1) ∧ Below X.heap.size X w' := fun X h => by rw [← hCT1]; exact takes_any _ s (witN s t) X h.out.1
    have CT2 : ∀ X, Hid (Kp w X P Q A n c p A' n' c' p' s t) → Calls Tryd.prog 28 #[.agg #[.slice A' n' c', .bool p'], .int .i64 (witN s t)] X fun e w' => e = .returned (.bool a2) ∧ Below X.heap.size X w' := fun X h => by rw [← hCT2]; exact takes_any _ t (witN s t) X h.out.2.1
    have CW1 : ∀ X, Hid (Kp w X P Q A n c p A' n' c' p' s t) → Calls Tryd.prog 29 #[.agg #[.slice A n c, .bool p]] X fun e w' => e = .returned (.bool g1) ∧ Below X.heap.size X w' := fun X h => by rw [← hCW1]; exact wild_any _ s X h.out.1
    have CW2 : ∀ X, Hid (Kp w X P Q A n c p A' n' c' p' s t) → Calls Tryd.prog 29 #[.agg #[.slice A' n' c', .bool p']] X fun e w' => e = .returned (.bool g2) ∧ Below X.heap.size X w' := fun X h => by rw [← hCW2]; exact wild_any _ t X h.out.2.1
    have CD1 : ∀ X, Hid (Kp w X P Q A n c p A' n' c' p' s t) → Calls Tryd.prog 30 #[.agg #[.slice A n c, .bool p]] X fun e w' => e = .returned (.bool d1) ∧ Below X.heap.size X w' := fun X h => by rw [← hCD1]; exact dollar_any _ s X h.out.1
    have CD2 : ∀ X, Hid (Kp w X P Q A n c p A' n' c' p' s t) → Calls Tryd.prog 30 #[.agg #[.slice A' n' c', .bool p']] X fun e w' => e = .returned (.bool d2) ∧ Below X.heap.size X w' := fun X h => by rw [← hCD2]; exact dollar_any _ t X h.out.2.1
    have CT1 := Lib.hid CT1
    have VCT1 := Lib.hid hCT1
    have CT2 := Lib.hid CT2
    have VCT2 := Lib.hid hCT2
    have CW1 := Lib.hid CW1
    have VCW1 := Lib.hid hCW1
    have CW2 := Lib.hid CW2
    have VCW2 := Lib.hid hCW2
    have CD1 := Lib.hid CD1
    have VCD1 := Lib.hid hCD1
    have CD2 := Lib.hid CD2
    have VCD2 := Lib.hid hCD2
    clear hCT1 hCT2 hCW1 hCW2 hCD1 hCD2
    go_upto_region 3 with fail
    go_cut [54] (fun b X => b = .bool (!ok || (!a1 || (!a2 || ((g1 && d2) || (g2 && d1))))) ∧ Hid (Kp w X P Q A n c p A' n' c' p' s t))
    case first =>
      cases ok
      · go_wp2_with fail
        go_meet
        exact ⟨rfl, by with_reducible assumption⟩
      · cases a1
        · go_wp2_with (first | (go_at_call 28; (with_reducible refine (CT1.out _ (by with_reducible assumption)).mono ?_); rintro e xCT1 ⟨rfl, y⟩; have kCT1 : Hid (Kp w xCT1 P Q A n c p A' n' c' p' s t) := kp_hid (by with_reducible assumption) y; clear y; obtain ⟨e1, e2, e3, e4⟩ := kCT1.out.2.2.2.2.2) | (go_at_call 28; (with_reducible refine (CT2.out _ (by with_reducible assumption)).mono ?_); rintro e xCT2 ⟨rfl, y⟩; have kCT2 : Hid (Kp w xCT2 P Q A n c p A' n' c' p' s t) := kp_hid (by with_reducible assumption) y; clear y; obtain ⟨e1, e2, e3, e4⟩ := kCT2.out.2.2.2.2.2) | (go_at_call 29; (with_reducible refine (CW1.out _ (by with_reducible assumption)).mono ?_); rintro e xCW1 ⟨rfl, y⟩; have kCW1 : Hid (Kp w xCW1 P Q A n c p A' n' c' p' s t) := kp_hid (by with_reducible assumption) y; clear y; obtain ⟨e1, e2, e3, e4⟩ := kCW1.out.2.2.2.2.2) | (go_at_call 29; (with_reducible refine (CW2.out _ (by with_reducible assumption)).mono ?_); rintro e xCW2 ⟨rfl, y⟩; have kCW2 : Hid (Kp w xCW2 P Q A n c p A' n' c' p' s t) := kp_hid (by with_reducible assumption) y; clear y; obtain ⟨e1, e2, e3, e4⟩ := kCW2.out.2.2.2.2.2) | (go_at_call 30; (with_reducible refine (CD1.out _ (by with_reducible assumption)).mono ?_); rintro e xCD1 ⟨rfl, y⟩; have kCD1 : Hid (Kp w xCD1 P Q A n c p A' n' c' p' s t) := kp_hid (by with_reducible assumption) y; clear y; obtain ⟨e1, e2, e3, e4⟩ := kCD1.out.2.2.2.2.2) | (go_at_call 30; (with_reducible refine (CD2.out _ (by with_reducible assumption)).mono ?_); rintro e xCD2 ⟨rfl, y⟩; have kCD2 : Hid (Kp w xCD2 P Q A n c p A' n' c' p' s t) := kp_hid (by with_reducible assumption) y; clear y; obtain ⟨e1, e2, e3, e4⟩ := kCD2.out.2.2.2.2.2))
          go_meet
          exact ⟨rfl, by with_reducible assumption⟩
        · cases a2
          · go_wp2_with (first | (go_at_call 28; (with_reducible refine (CT1.out _ (by with_reducible assumption)).mono ?_); rintro e xCT1 ⟨rfl, y⟩; have kCT1 : Hid (Kp w xCT1 P Q A n c p A' n' c' p' s t) := kp_hid (by with_reducible assumption) y; clear y; obtain ⟨e1, e2, e3, e4⟩ := kCT1.out.2.2.2.2.2) | (go_at_call 28; (with_reducible refine (CT2.out _ (by with_reducible assumption)).mono ?_); rintro e xCT2 ⟨rfl, y⟩; have kCT2 : Hid (Kp w xCT2 P Q A n c p A' n' c' p' s t) := kp_hid (by with_reducible assumption) y; clear y; obtain ⟨e1, e2, e3, e4⟩ := kCT2.out.2.2.2.2.2) | (go_at_call 29; (with_reducible refine (CW1.out _ (by with_reducible assumption)).mono ?_); rintro e xCW1 ⟨rfl, y⟩; have kCW1 : Hid (Kp w xCW1 P Q A n c p A' n' c' p' s t) := kp_hid (by with_reducible assumption) y; clear y; obtain ⟨e1, e2, e3, e4⟩ := kCW1.out.2.2.2.2.2) | (go_at_call 29; (with_reducible refine (CW2.out _ (by with_reducible assumption)).mono ?_); rintro e xCW2 ⟨rfl, y⟩; have kCW2 : Hid (Kp w xCW2 P Q A n c p A' n' c' p' s t) := kp_hid (by with_reducible assumption) y; clear y; obtain ⟨e1, e2, e3, e4⟩ := kCW2.out.2.2.2.2.2) | (go_at_call 30; (with_reducible refine (CD1.out _ (by with_reducible assumption)).mono ?_); rintro e xCD1 ⟨rfl, y⟩; have kCD1 : Hid (Kp w xCD1 P Q A n c p A' n' c' p' s t) := kp_hid (by with_reducible assumption) y; clear y; obtain ⟨e1, e2, e3, e4⟩ := kCD1.out.2.2.2.2.2) | (go_at_call 30; (with_reducible refine (CD2.out _ (by with_reducible assumption)).mono ?_); rintro e xCD2 ⟨rfl, y⟩; have kCD2 : Hid (Kp w xCD2 P Q A n c p A' n' c' p' s t) := kp_hid (by with_reducible assumption) y; clear y; obtain ⟨e1, e2, e3, e4⟩ := kCD2.out.2.2.2.2.2))
            go_meet
            exact ⟨rfl, by with_reducible assumption⟩
          · cases g1 <;> cases d2 <;> cases g2 <;> cases d1
            all_goals (go_wp2_with (first | (go_at_call 28; (with_reducible refine (CT1.out _ (by with_reducible assumption)).mono ?_); rintro e xCT1 ⟨rfl, y⟩; have kCT1 : Hid (Kp w xCT1 P Q A n c p A' n' c' p' s t) := kp_hid (by with_reducible assumption) y; clear y; obtain ⟨e1, e2, e3, e4⟩ := kCT1.out.2.2.2.2.2) | (go_at_call 28; (with_reducible refine (CT2.out _ (by with_reducible assumption)).mono ?_); rintro e xCT2 ⟨rfl, y⟩; have kCT2 : Hid (Kp w xCT2 P Q A n c p A' n' c' p' s t) := kp_hid (by with_reducible assumption) y; clear y; obtain ⟨e1, e2, e3, e4⟩ := kCT2.out.2.2.2.2.2) | (go_at_call 29; (with_reducible refine (CW1.out _ (by with_reducible assumption)).mono ?_); rintro e xCW1 ⟨rfl, y⟩; have kCW1 : Hid (Kp w xCW1 P Q A n c p A' n' c' p' s t) := kp_hid (by with_reducible assumption) y; clear y; obtain ⟨e1, e2, e3, e4⟩ := kCW1.out.2.2.2.2.2) | (go_at_call 29; (with_reducible refine (CW2.out _ (by with_reducible assumption)).mono ?_); rintro e xCW2 ⟨rfl, y⟩; have kCW2 : Hid (Kp w xCW2 P Q A n c p A' n' c' p' s t) := kp_hid (by with_reducible assumption) y; clear y; obtain ⟨e1, e2, e3, e4⟩ := kCW2.out.2.2.2.2.2) | (go_at_call 30; (with_reducible refine (CD1.out _ (by with_reducible assumption)).mono ?_); rintro e xCD1 ⟨rfl, y⟩; have kCD1 : Hid (Kp w xCD1 P Q A n c p A' n' c' p' s t) := kp_hid (by with_reducible assumption) y; clear y; obtain ⟨e1, e2, e3, e4⟩ := kCD1.out.2.2.2.2.2) | (go_at_call 30; (with_reducible refine (CD2.out _ (by with_reducible assumption)).mono ?_); rintro e xCD2 ⟨rfl, y⟩; have kCD2 : Hid (Kp w xCD2 P Q A n c p A' n' c' p' s t) := kp_hid (by with_reducible assumption) y; clear y; obtain ⟨e1, e2, e3, e4⟩ := kCD2.out.2.2.2.2.2)))
            all_goals go_meet
            all_goals exact ⟨rfl, by with_reducible assumption⟩
    case rest =>
      obtain ⟨rfl, kd⟩ := hcut
      obtain ⟨w1b, w2b⟩ := wit_bad HS.out HTT.out HOK.out VCT1.out VCT2.out VCW1.out VCW2.out VCD1.out VCD2.out
      clear e1 e2 e3 e4 kc CT1 CT2 CW1 CW2 CD1 CD2 VCT1 VCT2 VCW1 VCW2 VCD1 VCD2
      obtain ⟨bad, hbad⟩ : ∃ bad, (!ok || (!a1 || (!a2 || ((g1 && d2) || (g2 && d1))))) = bad := ⟨_, rfl⟩
      rw [hbad] at w1b w2b ⊢
      clear hbad
      cases bad
      · obtain ⟨hokt, hpre, hov⟩ := w2b rfl
        subst hokt
        have HPRE := Lib.hid hpre
        have HOV := Lib.hid hov
        clear w1b w2b hpre hov
        have hn : witN s t ≤ 32 := by rw [← HS.out, ← HTT.out]; exact witN_small F G
        obtain ⟨N, hN⟩ : ∃ N, witN s t = N := ⟨_, rfl⟩
        rw [hN] at hn ⊢
        have HN := Lib.hid hN
        clear hN
        go_wp2
        go_loopw [56] (fun i X => ∃ k : Nat, i = .int .i64 k ∧ k ≤ N ∧ Hid (∀ j, j < k → okA s.lv t.lv j = true) ∧ Hid (Kp w X P Q A n c p A' n' c' p' s t)) (fun i _ => N - (intOf i).toNat)
        case atStart => exact ⟨0, rfl, by omega, Lib.hid (fun j h => absurd h (by omega)), by with_reducible assumption⟩
        case round =>
          obtain ⟨k, rfl, hk, HA, kr⟩ := hrel
          by_cases hlt : k < N
          · obtain ⟨x, hx⟩ : ∃ x, atL s.lv k = x := ⟨_, rfl⟩
            obtain ⟨y, hy⟩ : ∃ y, atL t.lv k = y := ⟨_, rfl⟩
            have hok := okA_of hx hy
            have CA1 : ∀ X, Hid (Kp w X P Q A n c p A' n' c' p' s t) → Calls Tryd.prog 31 #[.agg #[.slice A n c, .bool p], .int .i64 k] X fun e w' => e = .returned (strV x) ∧ Below X.heap.size X w' := fun X h => by rw [← hx]; exact at_any _ s k X h.out.1
            have CA2 : ∀ X, Hid (Kp w X P Q A n c p A' n' c' p' s t) → Calls Tryd.prog 31 #[.agg #[.slice A' n' c', .bool p'], .int .i64 k] X fun e w' => e = .returned (strV y) ∧ Below X.heap.size X w' := fun X h => by rw [← hy]; exact at_any _ t k X h.out.2.1
            unfold strV at CA1 CA2
            have CA1 := Lib.hid CA1
            have CA2 := Lib.hid CA2
            have krd : Hid (Kp w wr.drew P Q A n c p A' n' c' p' s t) := kp_hid kr (Below.refl _ _).drew
            have sr : S4 wr P Q A n c p A' n' c' p' := kr.out.2.2.2.2.2
            have srd : S4 wr.drew P Q A n c p A' n' c' p' := krd.out.2.2.2.2.2
            have step : okA s.lv t.lv k = true → Hid (∀ j, j < k + 1 → okA s.lv t.lv j = true) := fun h => Lib.hid (fun j hj => by
              by_cases hjk : j = k
              · rw [hjk]; exact h
              · exact HA.out j (by omega))
            have HSTEP := Lib.hid step
            have HOKA := Lib.hid hok
            clear hx hy hok step
            go_wp2_with fail
            go_region_held3 (fun X => S4 X P Q A n c p A' n' c' p') (with_reducible assumption) (first | (go_at_call 31; (with_reducible refine (CA1.out _ (by with_reducible assumption)).mono ?_); rintro e xa ⟨rfl, ya⟩; have ka : Hid (Kp w xa P Q A n c p A' n' c' p' s t) := kp_hid (by with_reducible assumption) ya; have sa : S4 xa P Q A n c p A' n' c' p' := ka.out.2.2.2.2.2) | (go_at_call 31; (with_reducible refine (CA2.out _ (by with_reducible assumption)).mono ?_); rintro e xb ⟨rfl, yb⟩; have kb : Hid (Kp w xb P Q A n c p A' n' c' p' s t) := kp_hid (by with_reducible assumption) yb; have sb : S4 xb P Q A n c p A' n' c' p' := kb.out.2.2.2.2.2))
            all_goals clear sr srd sa sb kr krd
            all_goals
              by_cases hxy : x = y
              · have f1 : (x == y) = true := by rw [hxy]; simp
                have f2 : (x != y) = false := by unfold bne; rw [f1]; rfl
                have hst := HSTEP.out (by rw [HOKA.out, f1]; rfl)
                clear hxy
                go_wp2
                go_roundw
                case rel => exact ⟨k + 1, by go_num, by omega, hst, by with_reducible assumption⟩
                case measure => simp [intOf]; omega
              have f1 : (x == y) = false := beq_eq_false_iff_ne.2 hxy
              have f2 : (x != y) = true := by unfold bne; rw [f1]; rfl
              clear hxy
              by_cases hx43 : x = [43]
              · have f3 : (x == [43]) = true := by rw [hx43]; rfl
                have f4 : (x != [43]) = false := by unfold bne; rw [f3]; rfl
                have hst := HSTEP.out (by rw [HOKA.out, f1, f3]; rfl)
                clear hx43
                go_wp2
                go_roundw
                case rel => exact ⟨k + 1, by go_num, by omega, hst, by with_reducible assumption⟩
                case measure => simp [intOf]; omega
              have f3 : (x == [43]) = false := beq_eq_false_iff_ne.2 hx43
              have f4 : (x != [43]) = true := by unfold bne; rw [f3]; rfl
              clear hx43
              by_cases hy43 : y = [43]
              · have f5 : (y == [43]) = true := by rw [hy43]; rfl
                have f6 : (y != [43]) = false := by unfold bne; rw [f5]; rfl
                have hst := HSTEP.out (by rw [HOKA.out, f1, f3, f5]; rfl)
                clear hy43
                go_wp2
                go_roundw
                case rel => exact ⟨k + 1, by go_num, by omega, hst, by with_reducible assumption⟩
                case measure => simp [intOf]; omega
              have f5 : (y == [43]) = false := beq_eq_false_iff_ne.2 hy43
              have f6 : (y != [43]) = true := by unfold bne; rw [f5]; rfl
              clear hy43
              have hr : Hid (r = .tuple #[.string ⟨#[]⟩, .bool false]) := Lib.hid (by
                rw [← HR.out, HOV.out, witC_not (j := k) (by rw [HN.out]; exact hlt) (by rw [HOKA.out, f1, f3, f5]; rfl)]; rfl)
              go_wp2
              go_ret2
              exact ⟨by rw [hr.out]; rfl, kb.out.2.2.1⟩
          · have hkn : k = N := by omega
            subst hkn
            have hw : witC s t = true := witC_all HPRE.out fun j hj => HA.out j (by rw [HN.out] at hj; exact hj)
            have hr : Hid (r = .tuple #[strV (jn (fil k (pickL s.lv t.lv) (frs s.lv t.lv))), .bool true]) := Lib.hid (by
              rw [← HR.out, HOV.out, hw, ← HN.out, ← HS.out, ← HTT.out]; rfl)
            have hl : s.lv.length ≤ 1024 := by rw [← HS.out]; have := shp_small F; omega
            have hl' : t.lv.length ≤ 1024 := by rw [← HTT.out]; have := shp_small G; omega
            have hlen : (jn (fil k (pickL s.lv t.lv) (frs s.lv t.lv))).length ≤ 140737488355328 := by
              rw [← HS.out, ← HTT.out]
              exact fil_len F G k (by omega) _ (pick_or _ _)
            have h1 : 1 ≤ k := by rw [← HN.out]; exact witN_pos _ _
            obtain ⟨e1, e2, e3, e4⟩ := kr.out.2.2.2.2.2
            have CFR : ∀ X, Hid (Kp w X P Q A n c p A' n' c' p' s t) → Calls Tryd.prog 34 #[.agg #[.slice A n c, .bool p], .agg #[.slice A' n' c', .bool p']] X fun e w' => e = .returned (strV (frs s.lv t.lv)) ∧ Below X.heap.size X w' := fun X h => fresh_any _ _ s t X h.out.1 h.out.2.1 hl hl'
            have CFI : ∀ X, Hid (Kp w X P Q A n c p A' n' c' p' s t) → Calls Tryd.prog 32 #[.int .i64 k, .func (.func 33) #[] #[.pointer (some ⟨P, 0, none⟩), .pointer (some ⟨Q, 0, none⟩)], strV (frs s.lv t.lv)] X fun e w' => e = .returned (strV (jn (fil k (pickL s.lv t.lv) (frs s.lv t.lv)))) ∧ Below X.heap.size X w' := fun X h =>
              filled_any 33 #[] #[.pointer (some ⟨P, 0, none⟩), .pointer (some ⟨Q, 0, none⟩)] (pickL s.lv t.lv) k (frs s.lv t.lv) X h1 (by omega) hlen (enters_of Tryd.func33 (by kernel_rfl) rfl) (fun i Y hi hb => by
                have kY := h.out.below hb
                exact wit1_any P Q _ _ s t i Y kY.1 kY.2.1 ⟨A, n, c, p, rfl, kY.2.2.2.1, kY.2.2.2.2.2.1, kY.2.2.2.2.2.2.1⟩ ⟨A', n', c', p', rfl, kY.2.2.2.2.1, kY.2.2.2.2.2.2.2.1, kY.2.2.2.2.2.2.2.2⟩)
            obtain ⟨fo, hfo⟩ : ∃ fo, frs s.lv t.lv = fo := ⟨_, rfl⟩
            rw [hfo] at CFR CFI hr
            have CFR := Lib.hid CFR
            have CFI := Lib.hid CFI
            clear hfo hlen hl hl' hw
            unfold strV at CFR CFI
            go_wp2_with fail
            refine (CFR.out _ kr).mono ?_
            rintro e x1 ⟨rfl, y1⟩
            have k1 := kp_hid kr y1
            clear y1
            go_wp2_with fail
            refine (CFI.out _ k1).mono ?_
            rintro e x2 ⟨rfl, y2⟩
            have k2 := kp_hid k1 y2
            go_wp2
            go_ret2
            exact ⟨by rw [hr.out]; rfl, k2.out.2.2.1⟩
      · have hov := w1b rfl
        have hr : r = .tuple #[.string ⟨#[]⟩, .bool false] := by
          rw [← HR.out, hov]; rfl
        clear w1b w2b hov
        go_wp2
        go_ret2
        exact ⟨by rw [hr]; rfl, kd.out.2.2.1⟩
end Go.Proofs.YtichhppfdjkgkaaDoor
