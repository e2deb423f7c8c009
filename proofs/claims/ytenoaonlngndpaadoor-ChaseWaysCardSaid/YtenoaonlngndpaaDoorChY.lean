/- ChaseWays: the law's walk. -/
import Derived.Test.YtenoaonlngndpaaDoorChW
import Derived.Test.YtenoaonlngndpaaDoorH2P10
import Derived.BigQuiet
import Derived.Deep.QuietTactic
import Derived.Deep.DeepCutAuto
import Derived.IntWalk
namespace Go.Proofs.YtenoaonlngndpaaDoor
set_option linter.unusedVariables false
set_option linter.unusedSimpArgs false
open Go.RowKit Go.Maps Pl Go.Shelf

theorem places_pinv {K : Kb} {at' h : Int} {name : ByteArray} {i : Nat} {y : Plc} (hy : (places K at' name h).1[i]? = some y) (h0 : 0 ≤ h) (h1 : h ≤ 32) : PInv K at' name h (places K at' name h).1 := by
  by_cases ho : plOk at' name h = true
  · have := (places_inv (K := K) ho (show 0 ≤ min h 32 from by omega)).1
    rwa [show min h 32 = h from by omega] at this
  · have e : places K at' name h = ([], true) := by unfold places; rw [if_neg ho]
    rw [e] at hy
    cases hy
theorem plc_cells {w : World} {B : Nat} {T : TypeId} {out : List Plc} {ao : Option Addr} {cap n : Nat} (h : Sl B w T 3 (.slice ao n cap) out.length (out.flatMap plC)) {i : Nat} {x : Plc} (hi : out[i]? = some x) :
    ∃ g o, ao = some ⟨g, o, none⟩ ∧ g < w.heap.size ∧ w.cell? ⟨g, o + i * 3, none⟩ = some (.int .i64 x.br) ∧ w.cell? ⟨g, o + i * 3 + 1, none⟩ = some (.string x.tp) ∧ w.cell? ⟨g, o + i * 3 + 2, none⟩ = some (.int .i64 x.hp) := by
  have hlt := getElem?_lt hi
  obtain ⟨g, o, cap, e, hB, hg, -, -, hc⟩ := h.at (by omega)
  cases e
  have f := fun j u (hu : (plC x)[j]? = some u) => hc _ _ (flat_get plC 3 (fun _ => rfl) out i x hi j u hu)
  exact ⟨g, o, rfl, hg, f 0 _ rfl, f 1 _ rfl, f 2 _ rfl⟩
theorem plW_of {H : Int} {out : List Plc} (h : PlB H out) {p : Plc} (hp : p ∈ out) (hH : p.hp ≤ 100) : PlW p := by
  obtain ⟨h1, h2, h3, h4, h5⟩ := h.2 p hp
  refine ⟨wf_8 h4 h5, by unfold maxLen; omega, ?_⟩
  simp [Lit.wf, IntKind.min, IntKind.max, IntKind.signed, IntKind.bits]; omega
theorem take_snoc {α : Type} {l : List α} {k : Nat} {x : α} (h : l[k]? = some x) : l.take (k + 1) = l.take k ++ [x] := by
  rw [List.take_add_one, h]; rfl
theorem any_take_succ {α : Type} {p : α → Bool} {l : List α} {k : Nat} {x : α} (h : l[k]? = some x) : (l.take (k + 1)).any p = ((l.take k).any p || p x) := by
  rw [take_snoc h, List.any_append]; simp
set_option maxHeartbeats 8000000 in
set_option maxRecDepth 100000 in
theorem chaseWays_walk (v0 : Value) (l : List Ad) (name : ByteArray) (hn : name.size ≤ 140737488351232) (v2 : Value) (z : Int × Int) (w : World) (h0 : AvRow w v0 l ∧ ∀ a ∈ l, AvFits a)
    (h2 : v2 = .agg #[.int .i64 z.1, .int .i64 z.2] ∧ -9223372036854775808 ≤ z.1 ∧ z.1 ≤ 9223372036854775807 ∧ -9223372036854775808 ≤ z.2 ∧ z.2 ≤ 9223372036854775807) (hT : Tabs w) :
    Calls Tryd.prog 6 #[v0, .string name, v2] w fun e w' => e = .returned (.bool true) ∧ Below w.heap.size w w' := by
  obtain ⟨x0, x1⟩ := z
  obtain ⟨rfl, z1, z2, z3, z4⟩ := h2
  simp only at z1 z2 z3 z4 ⊢
  have bY := (Below.refl w.heap.size w).alloc (Nat.le_refl _) (.cells #[.int .i64 x0, .int .i64 x1] 23)
  have kY := blk_at w #[.int .i64 x0, .int .i64 x1] 23 rfl
  obtain ⟨Y, hY⟩ : ∃ Y, w.alloc (.cells #[.int .i64 x0, .int .i64 x1] 23) = Y := ⟨_, rfl⟩
  rw [hY] at bY kY
  have HE := Lib.hid hY
  have HKY := Lib.hid kY
  have HBY := Lib.hid bY
  have HTY := Lib.hid (hT.below bY)
  have CB := Lib.hid (base_any l v0 Y (h0.1.below bY) h0.2 HTY.out)
  clear hT h0 bY kY hY
  go_enter Tryd.func6, Tryd.ntmps6
  go_wp2_with (first | (rw [HE.out]) | fail)
  refine CB.out.mono ?_
  rintro e w1 ⟨bp, mb, n, dp, E, rfl, hk, hn12, -, -, -, hb⟩
  have HK := Lib.hid hk
  have HB := Lib.hid (HBY.out.trans (hb.mono HBY.out.size))
  have HT1 := Lib.hid (HTY.out.below hb)
  obtain ⟨K, hKK⟩ : ∃ K, baseK l = K := ⟨_, rfl⟩
  rw [hKK] at HK
  have k1 := HKY.out.of_below hb
  have s00 : w1.cell? ⟨w.heap.size, 0, none⟩ = some (.int .i64 x0) := k1.cell 0
  have s01 : w1.cell? ⟨w.heap.size, 1, none⟩ = some (.int .i64 x1) := k1.cell 1
  obtain ⟨at', hat⟩ : ∃ a : Int, max 0 x0 % 8 = a := ⟨_, rfl⟩
  have ha0 : 0 ≤ at' := by omega
  have ha1 : at' < 8 := by omega
  obtain ⟨H, hH⟩ : ∃ a : Int, max 0 x1 % 10 = a := ⟨_, rfl⟩
  have hH0 : 0 ≤ H := by omega
  have hH1 : H < 10 := by omega
  clear hk hn12 hb k1 CB hKK
  go_wp2_with fail
  go_region
  have hbD := (Below.refl w1.heap.size w1).drew
  have HBD := Lib.hid (HB.out.trans (hbD.mono HB.out.size))
  have HKD := Lib.hid (HK.out.below hbD)
  have HTD := Lib.hid (HT1.out.below hbD)
  obtain ⟨D, hD⟩ : ∃ D, w1.drew = D := ⟨_, rfl⟩
  rw [hD] at HBD HKD HTD ⊢
  rw [hat, hH]
  have CP := Lib.hid (places_any Y.heap.size bp mb n K at' H name D HKD.out (by omega) (by omega) (by omega) (by omega) (by omega) HTD.out)
  obtain ⟨R, hRR⟩ : ∃ R, places K at' name H = R := ⟨_, rfl⟩
  have hpm := places_more (K := K) (at' := at') (name := name) hH0 (show H < 32 by omega)
  have hpi := fun (i : Nat) (y : Plc) (hy : (places K at' name H).1[i]? = some y) => places_pinv hy hH0 (show H ≤ 32 by omega)
  rw [hRR] at CP hpm hpi
  obtain ⟨P, all⟩ := R
  obtain ⟨R2, hR2⟩ : ∃ R, places K at' name (H + 1) = R := ⟨_, rfl⟩
  rw [hR2] at hpm
  obtain ⟨Q, more⟩ := R2
  simp only at hpm hpi
  obtain ⟨hm1, hm2⟩ := hpm
  have HM1 := Lib.hid hm1
  have HM2 := Lib.hid hm2
  have HPI := Lib.hid hpi
  have HR2 := Lib.hid hR2
  have HQB : Hid (∀ p ∈ Q, p.hp ≤ 100) := Lib.hid (fun p hp => by
    obtain ⟨k, hk⟩ := List.getElem?_of_mem hp
    have := ((places_pinv (K := K) (at' := at') (name := name) (h := H + 1) (i := k) (y := p) (by rw [HR2.out]; exact hk) (by omega) (by omega)).bd p (by rw [HR2.out]; exact hp)).2
    omega)
  have HPQ : Hid (∀ p ∈ P, inP Q p = true) := Lib.hid (fun p hp => by
    obtain ⟨t, ht⟩ := HM2.out
    exact inP_true (by rw [ht]; exact List.mem_append_left _ hp))
  clear hbD hD s00 s01 hat hH hRR hm1 hm2 hpi hR2
  go_wp2_with fail
  refine CP.out.mono ?_
  rintro e w2 ⟨v, H', rfl, ho, b2, hP⟩
  simp only at ho hP ⊢
  obtain ⟨ao, cap, rfl, q1, q2, -⟩ := ho.form
  have HB2 := Lib.hid (HBD.out.trans (b2.mono HBD.out.size))
  have HK2 := Lib.hid (HKD.out.below b2)
  have HT2 := Lib.hid (HTD.out.below b2)
  have HO2 := Lib.hid ho
  have HPL := Lib.hid hP
  have hol := hP.1
  have CP2 := places_any Y.heap.size bp mb n K at' (H + 1) name w2 HK2.out (by omega) (by omega) (by omega) (by omega) (by omega) HT2.out
  rw [HR2.out] at CP2
  have CP2 := Lib.hid CP2
  clear ho b2 hP CP HKD HTD
  go_wp2_with fail
  refine CP2.out.mono ?_
  rintro e w3 ⟨v', H2, rfl, ho', b3, hP'⟩
  simp only at ho' hP' ⊢
  obtain ⟨ao', cap', rfl, q1', q2', -⟩ := ho'.form
  unfold maxLen at q2 q2'
  have HB3 := Lib.hid (HB2.out.trans (b3.mono HB2.out.size))
  have HK3 := Lib.hid (HK2.out.below b3)
  have HT3 := Lib.hid (HT2.out.below b3)
  have HO3 := Lib.hid (HO2.out.below b3)
  have HQ3 := Lib.hid ho'
  have HQL := Lib.hid hP'
  have hql := hP'.1
  have CW := Lib.hid (lwakes_any w3 HT3.out)
  clear ho' b3 hP' CP2 HB2 HK2 HT2 HO2
  go_upto_region 5 with fail
  go_cut [72] (fun c X => c = .bool false ∧ Hid (Below w3.heap.size w3 X))
  case first =>
    have d1 : decide (256 < (P.length : Int)) = false := by simp; omega
    cases all
    · obtain rfl := HM1.out rfl
      go_wp2_with fail
      refine CW.out.mono ?_
      rintro e w4 ⟨rfl, b4⟩
      go_wp2_with fail
      go_meet
      exact ⟨rfl, Lib.hid b4⟩
    · go_wp2_with fail
      refine CW.out.mono ?_
      rintro e w4 ⟨rfl, b4⟩
      go_wp2_with fail
      go_meet
      exact ⟨rfl, Lib.hid b4⟩
  case rest =>
  obtain ⟨rfl, hB4⟩ := hcut
  have HB4 := Lib.hid (HB3.out.trans (hB4.out.mono HB3.out.size))
  have HK4 := Lib.hid (HK3.out.below hB4.out)
  have HT4 := Lib.hid (HT3.out.below hB4.out)
  have HO4 := Lib.hid (HO3.out.below hB4.out)
  have HQ4 := Lib.hid (HQ3.out.below hB4.out)
  clear hB4 CW HB3 HK3 HT3 HO3 HQ3
  have hs2 := PlmAt.new wc
  have bb2 := (Below.refl wc.heap.size wc).alloc (Nat.le_refl _) (.map #[] 0)
  obtain ⟨Y2, hY2⟩ : ∃ Y2, wc.alloc (.map #[] 0) = Y2 := ⟨_, rfl⟩
  rw [hY2] at hs2 bb2
  have HS2 := Lib.hid hs2
  have HBB := Lib.hid bb2
  have hmm := @run_makeMap Tryd.prog
  clear hs2 bb2
  go_wp2_with fail
  clear hY2 hmm
  go_loopw [17, 76] (fun yv kv wr => ∃ (k : Nat), kv = .int .i64 k ∧ k ≤ Q.length ∧ Hid (PlmAt wc.heap.size (Q.take k) k wr) ∧ Hid (Below wc.heap.size wc wr)) (fun _ kv _ => Q.length - (intOf kv).toNat)
  case atStart => exact ⟨0, rfl, Nat.zero_le _, HS2, HBB⟩
  case round => as_aux_lemma =>
    obtain ⟨k, rfl, hk, hS, hW⟩ := hrel
    by_cases hlt : k < Q.length
    · have hkM : (k : Int) < (Q.length : Int) := by omega
      obtain ⟨p, hp⟩ : ∃ y, Q[k]? = some y := ⟨_, List.getElem?_eq_getElem (by omega)⟩
      obtain ⟨g, o, rfl, hg, m0, m1, m2⟩ := plc_cells (HQ4.out.below hW.out) hp
      have k1 := blk_at wr (plA p) 37 rfl
      have bX := (Below.refl wr.heap.size wr).alloc (Nat.le_refl _) (.cells (plA p) 37)
      obtain ⟨X1, hX1⟩ : ∃ X1, wr.alloc (.cells (plA p) 37) = X1 := ⟨_, rfl⟩
      rw [hX1] at k1 bX
      have x0 := k1.cell 0
      have x1 := k1.cell 1
      have x2 := k1.cell 2
      have hSX := hS.out.below bX
      obtain ⟨w5, hr5, hs5, hg5⟩ := hSX.store p (plW_of HQL.out (List.mem_of_getElem? hp) (HQB.out p (List.mem_of_getElem? hp))) (by unfold maxLen; omega)
      rw [← take_snoc hp] at hs5
      have HS5 := Lib.hid hs5
      have HW5 := Lib.hid ((hW.out.trans (bX.mono hW.out.size)).grown hg5 (Nat.le_trans hW.out.size bX.size) (fun k hk => by injection hk with hk; subst hk; exact Nat.le_refl _))
      simp only [plA, List.getElem?_toArray, List.getElem?_cons_zero, List.getElem?_cons_succ] at x0 x1 x2
      unfold plA at hX1
      unfold plV at hr5
      clear hp hg k1 bX hSX hs5 hg5
      go_wp2_with fail
      go_roundw
      case rel => exact ⟨k + 1, by go_num, by omega, HS5, HW5⟩
      case measure => simp [intOf]; omega
    · obtain rfl : k = Q.length := by omega
      have hnl : ¬ ((Q.length : Int) < (Q.length : Int)) := by omega
      have hSM := hS.out
      rw [List.take_length] at hSM
      have HSM := Lib.hid hSM
      have HBM := Lib.hid (HB4.out.trans (hW.out.mono HB4.out.size))
      have HKM := Lib.hid (HK4.out.below hW.out)
      have HTM := Lib.hid (HT4.out.below hW.out)
      have HOM := Lib.hid (HO4.out.below hW.out)
      clear hSM hS
      obtain ⟨sm, hsm⟩ : ∃ sm, wc.heap.size = sm := ⟨_, rfl⟩
      rw [hsm] at HSM
      go_wp2_with fail
      clear hsm
      obtain ⟨M, rfl⟩ : ∃ M, M = wr := ⟨_, rfl⟩
      go_loopw [85] (fun iv wX => ∃ (i : Nat), iv = .int .i64 i ∧ i ≤ P.length ∧ Hid (Below M.heap.size M wX)) (fun iv _ => P.length - (intOf iv).toNat)
      case atStart => exact ⟨0, rfl, Nat.zero_le _, Lib.hid (Below.refl _ _)⟩
      case round => as_aux_lemma =>
        obtain ⟨i, rfl, hi, hV⟩ := hrel
        by_cases hlt : i < P.length
        · have hiM : (i : Int) < (P.length : Int) := by omega
          obtain ⟨y, hy⟩ : ∃ y, P[i]? = some y := ⟨_, List.getElem?_eq_getElem (by omega)⟩
          obtain ⟨g, o, rfl, hg, m0, m1, m2⟩ := plc_cells (HOM.out.below hV.out) hy
          have hyP := List.mem_of_getElem? hy
          have HINV := Lib.hid (HPI.out i y hy)
          have hbd := HINV.out.bd y hyP
          have hyb := HPL.out.2 y hyP
          have k1 := blk_at wr (plA y) 37 rfl
          have bX := (Below.refl wr.heap.size wr).alloc (Nat.le_refl _) (.cells (plA y) 37)
          obtain ⟨X1, hX1⟩ : ∃ X1, wr.alloc (.cells (plA y) 37) = X1 := ⟨_, rfl⟩
          rw [hX1] at k1 bX
          have v0 := k1.cell 0
          have v1 := k1.cell 1
          have v2 := k1.cell 2
          have HV1 := Lib.hid (hV.out.trans (bX.mono hV.out.size))
          have hlk := (HSM.out.below HV1.out).look (q := y) (plW_of HPL.out hyP (by omega))
          rw [HPQ.out y hyP] at hlk
          simp only [plA, List.getElem?_toArray, List.getElem?_cons_zero, List.getElem?_cons_succ] at v0 v1 v2
          have HKY1 := Lib.hid k1
          have HY := Lib.hid hy
          obtain ⟨by', hby⟩ : ∃ b, wr.heap.size = b := ⟨_, rfl⟩
          rw [hby] at v0 v1 v2 HKY1
          unfold plA at hX1
          unfold plV at hlk
          have hd1 : decide (H < y.hp) = false := by simp; omega
          have HGM := Lib.hid hg
          clear hy hg k1 bX hk hlt
          go_upto_region 16 with fail
          go_cut [105] (fun c X => c = .bool false ∧ X1 = X)
          case first =>
            cases all
            · go_wp2_with fail
              go_meet
              exact ⟨rfl, rfl⟩
            · cases more
              · go_wp2_with fail
                go_meet
                exact ⟨rfl, rfl⟩
              · go_wp2_with fail
                go_meet
                exact ⟨rfl, rfl⟩
          case rest =>
          obtain ⟨rfl, rfl⟩ := hcut
          clear hlk hX1 hby hd1 m0 m1 m2
          go_upto_region 18 with fail
          go_cut [20] (fun c X => c = .bool (decide (i = 0)) ∧ X1 = X)
          case first =>
            by_cases hi0 : i = 0
            · subst hi0
              have hy0 : y = ⟨at', name, 0⟩ := by
                have h1 := HY.out
                rw [HINV.out.first] at h1
                injection h1 with h1
                exact h1.symm
              subst hy0
              go_wp2_with fail
              go_meet
              exact ⟨by simp, rfl⟩
            · have hd2 : ((i : Int) == 0) = false := by simp; omega
              go_wp2_with fail
              go_meet
              exact ⟨by simp [hi0], rfl⟩
          case rest =>
          obtain ⟨rfl, rfl⟩ := hcut
          have hcap : (i : Int) ≤ (cap : Int) := by omega
          obtain ⟨f0, hf0⟩ : ∃ b, decide (i = 0) = b := ⟨_, rfl⟩
          rw [hf0]
          have HF0 := Lib.hid hf0
          clear hf0 v0 v1 v2
          go_wp2_with fail
          go_loopw [20, 119] (fun fv kv wX => ∃ (k : Nat), kv = .int .i64 k ∧ k ≤ i ∧ fv = .bool (f0 || ledBy K P k y) ∧ Hid (Below X1.heap.size X1 wX)) (fun _ kv _ => i - (intOf kv).toNat)
          case atStart => exact ⟨0, rfl, Nat.zero_le _, by simp [ledBy], Lib.hid (Below.refl _ _)⟩
          case round => as_aux_lemma =>
            obtain ⟨k, rfl, hk, rfl, hU⟩ := hrel
            by_cases hlt : k < i
            · have hkM : (k : Int) < (i : Int) := by omega
              obtain ⟨z, hz⟩ : ∃ z, P[k]? = some z := ⟨_, List.getElem?_eq_getElem (by omega)⟩
              have HV2 := Lib.hid (HV1.out.trans (hU.out.mono HV1.out.size))
              obtain ⟨g', o', e', hg', c0, c1, c2⟩ := plc_cells (HOM.out.below HV2.out) hz
              cases e'
              have hzP := List.mem_of_getElem? hz
              have hzd := HINV.out.bd z hzP
              have hzb := HPL.out.2 z hzP
              have k2 := blk_at wr (plA z) 37 rfl
              have bX2 := (Below.refl wr.heap.size wr).alloc (Nat.le_refl _) (.cells (plA z) 37)
              obtain ⟨X2, hX2⟩ : ∃ X2, wr.alloc (.cells (plA z) 37) = X2 := ⟨_, rfl⟩
              rw [hX2] at k2 bX2
              have HU2 := Lib.hid (hU.out.trans (bX2.mono hU.out.size))
              have HV3 := Lib.hid (HV1.out.trans (HU2.out.mono HV1.out.size))
              have HKY2 := Lib.hid (HKY1.out.of_below HU2.out)
              obtain ⟨bz, hbz⟩ : ∃ b, wr.heap.size = b := ⟨_, rfl⟩
              rw [hbz] at k2
              have HKZ2 := Lib.hid k2
              have a0 := k2.cell 0
              have a1 := k2.cell 1
              have a2 := k2.cell 2
              have y0 := HKY2.out.cell 0
              have y1 := HKY2.out.cell 1
              simp only [plA, List.getElem?_toArray, List.getElem?_cons_zero, List.getElem?_cons_succ] at a0 a1 a2 y0 y1
              unfold plA at hX2
              have HZ := Lib.hid hz
              clear hg' k2 bX2 hU
              go_upto_region 22 with fail
              go_cut [150] (fun c X => c = .bool false ∧ Hid (Below X2.heap.size X2 X))
              case first =>
                by_cases hk0 : k = 0
                · have hd3 : decide (0 < (k : Int)) = false := by simp; omega
                  have hd5 : decide (0 < k) = false := by simp; omega
                  by_cases hb : z.br = y.br
                  · have hbe : (z.br == y.br) = true := by simpa using hb
                    have hte : (z.tp.toList == y.tp.toList) = false := str_eq_false (fun c => HINV.out.one k i z y hlt HZ.out HY.out ⟨hb, c⟩)
                    clear hb hk0
                    go_wp2_with fail
                    go_quiet (fail)
                    go_wp2_with fail
                    go_meet
                    exact ⟨rfl, Lib.hid (drewN_below _ _)⟩
                  · have hbe : (z.br == y.br) = false := beq_eq_false_iff_ne.2 hb
                    clear hb hk0
                    go_wp2_with fail
                    go_quiet (fail)
                    go_wp2_with fail
                    go_meet
                    exact ⟨rfl, Lib.hid (drewN_below _ _)⟩
                · have hd3 : decide (0 < (k : Int)) = true := by simp; omega
                  have hd5 : decide (0 < k) = true := by simp; omega
                  obtain ⟨u, hu⟩ : ∃ z, P[k - 1]? = some z := ⟨_, List.getElem?_eq_getElem (by omega)⟩
                  obtain ⟨g', o', e', hg', p0, p1, p2⟩ := plc_cells (HOM.out.below HV3.out) hu
                  cases e'
                  have hup := HINV.out.up (k - 1) k u z (by omega) hu HZ.out
                  have hd4 : decide (z.hp < u.hp) = false := by simp; omega
                  have hk3 : IntKind.i64.wrap ((k : Int) - 1) = (k : Int) - 1 := IntWalk.i64_in _ (by omega)
                  have hk4 : ((k : Int) - 1).toNat = k - 1 := by omega
                  have hk5 : 0 ≤ (k : Int) - 1 := by omega
                  have hk6 : (k : Int) - 1 < (P.length : Int) := by omega
                  by_cases hb : z.br = y.br
                  · have hbe : (z.br == y.br) = true := by simpa using hb
                    have hte : (z.tp.toList == y.tp.toList) = false := str_eq_false (fun c => HINV.out.one k i z y hlt HZ.out HY.out ⟨hb, c⟩)
                    clear hb hk0 hu hg' hup
                    go_wp2_with fail
                    go_quiet (fail)
                    go_wp2_with fail
                    go_meet
                    exact ⟨rfl, Lib.hid (drewN_below _ _)⟩
                  · have hbe : (z.br == y.br) = false := beq_eq_false_iff_ne.2 hb
                    clear hb hk0 hu hg' hup
                    go_wp2_with fail
                    go_quiet (fail)
                    go_wp2_with fail
                    go_meet
                    exact ⟨rfl, Lib.hid (drewN_below _ _)⟩
              case rest =>
              obtain ⟨rfl, hQ⟩ := hcut
              have HQW := Lib.hid (HV3.out.trans (hQ.out.mono HV3.out.size))
              have HKZ3 := Lib.hid (HKZ2.out.of_below hQ.out)
              have HKY3 := Lib.hid (HKY2.out.of_below hQ.out)
              have CO := Lib.hid (kbof_any Y.heap.size bp mb n K z.br wc (HKM.out.below HQW.out) (wf_8 hzb.2.2.2.1 hzb.2.2.2.2))
              have HFT := Lib.hid ((HKM.out.below HQW.out).ok.fits z.br)
              have a0 := HKZ3.out.cell 0
              simp only [plA, List.getElem?_toArray, List.getElem?_cons_zero, List.getElem?_cons_succ] at a0
              clear a1 a2 y0 y1 c0 c1 c2 hX2 hbz
              go_wp2_with fail
              refine CO.out.mono ?_
              rintro e w5 ⟨vf, vl, rfl, had, b5⟩
              obtain ⟨a, ha⟩ : ∃ a, (K z.br).getD zAd = a := ⟨_, rfl⟩
              obtain ⟨bk, hbk⟩ : ∃ bk, (K z.br).isSome = bk := ⟨_, rfl⟩
              have hls := lks_get K z.br
              rw [ha] at had HFT hls ⊢
              rw [hbk]
              obtain ⟨af, kf, rfl, -, -, -⟩ := had.fs.form
              obtain ⟨al, kl, rfl, z3', z4', -⟩ := had.ls.form
              unfold maxLen at z4'
              have kX := blk_at w5 (adA a (.slice af a.fs.length kf) (.slice al a.ls.length kl)) 47 rfl
              have bX := (Below.refl w5.heap.size w5).alloc (Nat.le_refl _) (.cells (adA a (.slice af a.fs.length kf) (.slice al a.ls.length kl)) 47)
              obtain ⟨X3, hX3⟩ : ∃ X, w5.alloc (.cells (adA a (.slice af a.fs.length kf) (.slice al a.ls.length kl)) 47) = X := ⟨_, rfl⟩
              rw [hX3] at kX bX
              have HX3 := Lib.hid (hQ.out.trans ((b5.trans (bX.mono b5.size)).mono hQ.out.size))
              have HW3 := Lib.hid (HV3.out.trans (HX3.out.mono HV3.out.size))
              have HAD := Lib.hid (had.below bX)
              have x3 := kX.cell 3
              simp only [adA, List.getElem?_toArray, List.getElem?_cons_zero, List.getElem?_cons_succ] at x3
              have HLS := Lib.hid hls
              have HKZ4 := Lib.hid (HKZ2.out.of_below HX3.out)
              have HKY4 := Lib.hid (HKY2.out.of_below HX3.out)
              unfold adA at hX3 ⊢
              have hnl := HFT.out.nl
              obtain ⟨fk, hfk⟩ : ∃ b, (f0 || ledBy K P k y) = b := ⟨_, rfl⟩
              rw [hfk]
              have HFK := Lib.hid hfk
              clear had b5 bX kX CO hls ha hbk a0 hfk
              go_wp2_with fail
              clear hX3 x3
              go_loopw [20, 161] (fun fv jv wX => ∃ (j : Nat), jv = .int .i64 j ∧ j ≤ a.ls.length ∧ fv = .bool (fk || (a.ls.take j).any (leads z y)) ∧ Hid (Below X3.heap.size X3 wX)) (fun _ jv _ => a.ls.length - (intOf jv).toNat)
              case atStart => exact ⟨0, rfl, Nat.zero_le _, by simp, Lib.hid (Below.refl _ _)⟩
              case round => as_aux_lemma =>
                obtain ⟨j, rfl, hj, rfl, hT'⟩ := hrel
                by_cases hjl : j < a.ls.length
                · have hjM : (j : Int) < (a.ls.length : Int) := by omega
                  obtain ⟨lk, hlk⟩ : ∃ x, a.ls[j]? = some x := ⟨_, List.getElem?_eq_getElem hjl⟩
                  obtain ⟨g6, o6, rfl, hg6, m0, m1, m2, m3, m4, m5⟩ := dlk_cells (HAD.out.below hT'.out).ls hlk
                  have hlo := lks_ok HKM.out.ok (x := z.br) (l := lk) (by rw [← HLS.out]; exact List.mem_of_getElem? hlk)
                  have hsuc := any_take_succ (p := leads z y) hlk
                  obtain ⟨fj, hfj⟩ : ∃ b, (fk || (a.ls.take j).any (leads z y)) = b := ⟨_, rfl⟩
                  rw [hfj]
                  have HSUC := Lib.hid (show (fk || (a.ls.take (j + 1)).any (leads z y)) = (fj || leads z y lk) by rw [hsuc, ← Bool.or_assoc, hfj])
                  obtain ⟨peer, rule⟩ := lk
                  simp only at m0 m1 m2 m3 m4 m5 hlo
                  obtain ⟨t, ht⟩ : ∃ x, (toRem rule z.tp).1 = x := ⟨_, rfl⟩
                  obtain ⟨ok, hok⟩ : ∃ x, (toRem rule z.tp).2 = x := ⟨_, rfl⟩
                  have HLD := Lib.hid (show leads z y ⟨peer, rule⟩ = (ok && (decide (z.hp + 1 = y.hp) && (decide (peer = y.br) && decide (t = y.tp)))) by unfold leads; simp only; rw [ht, hok])
                  have kZ := blk_at wr #[.int .i64 peer, .string rule.pat, .int .i64 rule.dir, .int .i64 rule.qos, .string rule.loc, .string rule.rem] 55 rfl
                  have bZ := (Below.refl wr.heap.size wr).alloc (Nat.le_refl _) (.cells #[.int .i64 peer, .string rule.pat, .int .i64 rule.dir, .int .i64 rule.qos, .string rule.loc, .string rule.rem] 55)
                  obtain ⟨Z, hZ⟩ : ∃ Z, wr.alloc (.cells #[.int .i64 peer, .string rule.pat, .int .i64 rule.dir, .int .i64 rule.qos, .string rule.loc, .string rule.rem] 55) = Z := ⟨_, rfl⟩
                  rw [hZ] at kZ bZ
                  have HT5 := Lib.hid (hT'.out.trans (bZ.mono hT'.out.size))
                  have HW5 := Lib.hid (HW3.out.trans (HT5.out.mono HW3.out.size))
                  have CT := toremote_any rule z.tp Z hlo.1 (by have := hzb.2.2.1; omega) (HTM.out.below HW5.out)
                  rw [ht, hok] at CT
                  unfold ruV at CT
                  have CT := Lib.hid CT
                  have n0 := kZ.cell 0
                  have n1 := kZ.cell 1
                  have n2 := kZ.cell 2
                  have n3 := kZ.cell 3
                  have n4 := kZ.cell 4
                  have n5 := kZ.cell 5
                  have q1 := (HKZ4.out.of_below HT5.out).cell 1
                  simp only [plA, List.getElem?_toArray, List.getElem?_cons_zero, List.getElem?_cons_succ] at n0 n1 n2 n3 n4 n5 q1
                  have KZ := Lib.hid kZ
                  clear hlk hg6 hsuc hfj ht hok kZ bZ hT'
                  go_wp2_with fail
                  refine CT.out.mono ?_
                  rintro e w8 ⟨rfl, b8⟩
                  have HT8 := Lib.hid (HT5.out.trans (b8.mono HT5.out.size))
                  have n0 := (KZ.out.of_below b8).cell 0
                  have q2 := (HKZ4.out.of_below HT8.out).cell 2
                  have r0 := (HKY4.out.of_below HT8.out).cell 0
                  have r1 := (HKY4.out.of_below HT8.out).cell 1
                  have r2 := (HKY4.out.of_below HT8.out).cell 2
                  simp only [plA, List.getElem?_toArray, List.getElem?_cons_zero, List.getElem?_cons_succ] at n0 q2 r0 r1 r2
                  obtain ⟨bl, hbl⟩ : ∃ b, wr.heap.size = b := ⟨_, rfl⟩
                  rw [hbl] at n0
                  have hz1 : z.hp + 1 ≤ 9223372036854775807 := by omega
                  have hz0 : -9223372036854775808 ≤ z.hp + 1 := by omega
                  clear n1 n2 n3 n4 n5 q1 m0 m1 m2 m3 m4 m5 b8 CT KZ hZ
                  cases fj
                  · cases ok
                    · have EV := Lib.hid (show (false || leads z y ⟨peer, rule⟩) = false by rw [HLD.out]; rfl)
                      go_wp2_with fail
                      go_roundw
                      case rel => exact ⟨j + 1, by go_num, by omega, by rw [HSUC.out, EV.out], HT8⟩
                      case measure => simp [intOf]; omega
                    · by_cases h1 : z.hp + 1 = y.hp
                      · have e1 : (z.hp + 1 == y.hp) = true := by simpa using h1
                        by_cases h2 : peer = y.br
                        · have e2 : (peer == y.br) = true := by simpa using h2
                          by_cases h3 : t = y.tp
                          · have e3 : (t.toList == y.tp.toList) = true := str_eq_true h3
                            have EV := Lib.hid (show (false || leads z y ⟨peer, rule⟩) = true by rw [HLD.out]; simp [h1, h2, h3])
                            clear h1 h2 h3
                            go_wp2_with fail
                            go_roundw
                            case rel => exact ⟨j + 1, by go_num, by omega, by rw [HSUC.out, EV.out], HT8⟩
                            case measure => simp [intOf]; omega
                          · have e3 : (t.toList == y.tp.toList) = false := str_eq_false h3
                            have EV := Lib.hid (show (false || leads z y ⟨peer, rule⟩) = false by rw [HLD.out]; simp [h3])
                            clear h1 h2 h3
                            go_wp2_with fail
                            go_roundw
                            case rel => exact ⟨j + 1, by go_num, by omega, by rw [HSUC.out, EV.out], HT8⟩
                            case measure => simp [intOf]; omega
                        · have e2 : (peer == y.br) = false := beq_eq_false_iff_ne.2 h2
                          have EV := Lib.hid (show (false || leads z y ⟨peer, rule⟩) = false by rw [HLD.out]; simp [h2])
                          clear h1 h2
                          go_wp2_with fail
                          go_roundw
                          case rel => exact ⟨j + 1, by go_num, by omega, by rw [HSUC.out, EV.out], HT8⟩
                          case measure => simp [intOf]; omega
                      · have e1 : (z.hp + 1 == y.hp) = false := beq_eq_false_iff_ne.2 h1
                        have EV := Lib.hid (show (false || leads z y ⟨peer, rule⟩) = false by rw [HLD.out]; simp [h1])
                        clear h1
                        go_wp2_with fail
                        go_roundw
                        case rel => exact ⟨j + 1, by go_num, by omega, by rw [HSUC.out, EV.out], HT8⟩
                        case measure => simp [intOf]; omega
                  · have EV := Lib.hid (show (true || leads z y ⟨peer, rule⟩) = true from rfl)
                    go_wp2_with fail
                    go_roundw
                    case rel => exact ⟨j + 1, by go_num, by omega, by rw [HSUC.out, EV.out], HT8⟩
                    case measure => simp [intOf]; omega
                · obtain rfl : j = a.ls.length := by omega
                  have hnl2 : ¬ ((a.ls.length : Int) < (a.ls.length : Int)) := by omega
                  have HLB := Lib.hid (show (fk || (a.ls.take a.ls.length).any (leads z y)) = (f0 || ledBy K P (k + 1) y) by rw [List.take_length, ledBy_succ HZ.out, ← HLS.out, ← Bool.or_assoc, HFK.out])
                  rw [HLB.out]
                  have HUU := Lib.hid ((HU2.out.trans (HX3.out.mono HU2.out.size)).trans (hT'.out.mono (HU2.out.trans (HX3.out.mono HU2.out.size)).size))
                  go_wp2_with fail
                  go_roundw
                  case rel => exact ⟨k + 1, by go_num, by omega, rfl, HUU⟩
                  case measure => simp [intOf]; omega
            · obtain rfl : k = i := by omega
              have hnl : ¬ ((k : Int) < (k : Int)) := by omega
              have hled : (f0 || ledBy K P k y) = true := by
                rw [← HF0.out]
                rcases Nat.eq_zero_or_pos k with c | c
                · simp [c]
                · rw [led_src HINV.out c HY.out, Bool.or_true]
              rw [hled]
              have hVV := Lib.hid (HV1.out.trans (hU.out.mono HV1.out.size))
              clear hled
              go_wp2_with fail
              go_roundw
              case rel => exact ⟨k + 1, by go_num, by omega, hVV⟩
              case measure => simp [intOf]; omega
        · obtain rfl : i = P.length := by omega
          have hnl : ¬ ((P.length : Int) < (P.length : Int)) := by omega
          go_wp2_with fail
          go_ret
          exact ⟨rfl, HBM.out.trans (hV.out.mono HBM.out.size)⟩
end Go.Proofs.YtenoaonlngndpaaDoor
