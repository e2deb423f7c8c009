/- Parts of the proof, joined: Base, Spot, Plc, Plw, Wnt, Rul, Args. -/
import Derived.Test.YtenoaonlngndpaaDoorH2P5
import Derived.BigQuiet
import Derived.Deep.QuietTactic
import Derived.Deep.RegionHeld3
import Derived.DeepKeys5
import Derived.Lib.MinMax
import Derived.Test.YtenoaonlngndpaaDoorH2P4
import Derived.RegionTactic
import Derived.ChangeAlike
import Derived.Test.YtenoaonlngndpaaDoorRows
import Derived.WalkKit
import Derived.ProofKit
import Derived.OpenShut
import Derived.ShutString
import Derived.Deep.Strs
import Derived.SizedLaws
/- advert.Base's New, Of, Learn. -/
namespace Go.Proofs.YtenoaonlngndpaaDoor
set_option linter.unusedVariables false
set_option linter.unusedSimpArgs false
open Go.RowKit Go.Maps Pl Go.Shelf

theorem results_row_tmp {P : Program} {fn : Func} {t1 t2 : Nat} {ty1 : TypeId} (h : fn.results = #[.cell t1 ty1, .tmp t2]) (tmps : Array Value) (w : World) (g1 : Nat) (s1 : TypeId) (c1 : Array Value) (d1 : TypeDesc) (v : Value)
    (p1 : tmps.getD t1 undef = .pointer (some ⟨g1, 0, none⟩)) (p2 : tmps.getD t2 undef = v) (k1 : Blk w g1 c1 s1)
    (u1 : P.underlying ty1 = some d1) (q1 : (match d1 with | .struct _ | .array _ _ => true | _ => false) = true) (i1 : (P.info? ty1).map (·.size) = some c1.size) :
    (results fn tmps).run P w = .ok (.tuple #[.agg c1, v]) w := by
  have hp1 : tmps[t1]?.getD undef = .pointer (some ⟨g1, 0, none⟩) := by simpa using p1
  have hp2 : tmps[t2]?.getD undef = v := by simpa using p2
  simp [results, h, hp1, hp2, asAddr, run_loadVar_row w g1 s1 ty1 c1 (0, 0) d1 k1 u1 q1 i1]
/-- What a good advert holds a machine can. -/
theorem szd_le22 {s : ByteArray} (h : szd s = true) : s.size ≤ 256 := by
  unfold szd at h
  simp only [Bool.and_eq_true, decide_eq_true_eq] at h
  exact h.2.2.1
theorem filtB_size {s : ByteArray} (h : filtB s = true) : s.size ≤ 256 := by
  unfold filtB at h
  rw [Bool.and_eq_true] at h
  exact szd_le22 h.1
theorem nameB_size {s : ByteArray} (h : nameB s = true) : s.size ≤ 256 := by
  unfold nameB at h
  rw [Bool.and_eq_true] at h
  exact szd_le22 h.1
theorem pre_size {s : ByteArray} (h : pre s = true) : s.size ≤ 256 := by
  unfold pre at h
  rcases Bool.or_eq_true _ _ ▸ h with h | h
  · have : s.size = 0 := by simpa using h
    omega
  · exact nameB_size h
theorem ck_fits {r : Rl} (h : ckR r = 0) : r.fits := by
  unfold ckR at h
  split at h
  · rename_i h1
    split at h
    · rename_i h2
      rw [Bool.and_eq_true] at h2
      have a1 := filtB_size h1
      have a2 := pre_size h2.1
      have a3 := pre_size h2.2
      unfold inC at h
      split at h
      · cases h
      · split at h
        · cases h
        · rename_i h3 h4
          exact ⟨by omega, by omega, by omega, by omega, by omega, by omega, by omega⟩
    · cases h
  · cases h
theorem good_fits {a : Ad} (h : goodA a = true) : a.fits := by
  unfold goodA at h
  simp only [Bool.and_eq_true, decide_eq_true_eq] at h
  obtain ⟨⟨⟨⟨⟨⟨⟨h1, h2⟩, h3⟩, h4⟩, h5⟩, h6⟩, h7⟩, h8⟩ := h
  refine ⟨fun f hf => ?_, fun l hl => ?_, by omega, by omega⟩
  · have := filtB_size (List.all_eq_true.1 h7 f hf)
    omega
  · have := List.all_eq_true.1 h8 l hl
    simp only [Bool.and_eq_true, decide_eq_true_eq] at this
    exact ck_fits this.2
theorem zAd_fits : zAd.fits := ⟨fun f hf => (by cases hf), fun l hl => (by cases hl), by simp [zAd], by simp [zAd]⟩
theorem KbOk.fits {K : Kb} (h : KbOk K) (x : Int) : ((K x).getD zAd).fits := by
  cases hK : K x with
  | none => exact zAd_fits
  | some a => exact good_fits (h x a hK).1
theorem good_owner {a : Ad} (h : goodA a = true) : (Lit.int .i64 a.owner).wf = true := by
  unfold goodA at h
  simp only [Bool.and_eq_true, decide_eq_true_eq] at h
  obtain ⟨⟨⟨⟨⟨⟨⟨h1, h2⟩, h3⟩, h4⟩, h5⟩, h6⟩, h7⟩, h8⟩ := h
  simp [Lit.wf, IntKind.min, IntKind.max, IntKind.signed, IntKind.bits]; omega
set_option maxHeartbeats 400000 in
theorem kbnew_any (w : World) : Calls Tryd.prog 17 #[] w fun e w' => e = .returned (.pointer (some ⟨w.heap.size + 1, 0, none⟩)) ∧ KbAt w.heap.size (w.heap.size + 1) w.heap.size 0 (fun _ => none) w' ∧ Below w.heap.size w w' := by
  have hmm := @run_makeMap Tryd.prog
  go_enter Tryd.func17, Tryd.ntmps17
  go_wp2
  go_ret
  refine ⟨rfl, ⟨by omega, Nat.le_refl _, ?_, fun x a h => (by cases h), fun _ => none, (KMap.new _ w).same ?_, fun x => rfl⟩, ((Below.refl _ _).alloc (Nat.le_refl _) _).alloc (by simp) _⟩
  · have := Blk.new (w.alloc (.map #[] 0)) #[.map (some w.heap.size)] 94
    simpa using this
  · exact ((Below.refl _ _).alloc (Nat.le_refl _) _).block w.heap.size (by simp)
/-- What Of comes to. -/
def OfPost (K : Kb) (x : Int) (w : World) (e : Ending) (w' : World) : Prop := ∃ vf vl, e = .returned (.tuple #[.agg (adA ((K x).getD zAd) vf vl), .bool (K x).isSome]) ∧ AdAt w.heap.size w' 55 ((K x).getD zAd) vf vl ∧ Below w.heap.size w w'
def zAdA : Array Value := #[.int .i64 0, .int .i64 0, .slice none 0 0, .slice none 0 0]
set_option maxHeartbeats 1000000 in
set_option maxRecDepth 100000 in
theorem kbof_any (B bp mb n : Nat) (K : Kb) (x : Int) (w : World) (h : KbAt B bp mb n K w) (hx : (Lit.int .i64 x).wf = true) :
    Calls Tryd.prog 14 #[.pointer (some ⟨bp, 0, none⟩), .int .i64 x] w (OfPost K x w) := by
  have hY := (Below.refl w.heap.size w).alloc (Nat.le_refl _) (.cells zAdA 47)
  have hk := blk_at w zAdA 47 rfl
  obtain ⟨Y0, hY0⟩ : ∃ Y0, w.alloc (.cells zAdA 47) = Y0 := ⟨_, rfl⟩
  rw [hY0] at hY hk
  have HK := Lib.hid (h.below hY)
  have hFit := h.ok.fits x
  obtain ⟨vf, vl, hl, -, had⟩ := HK.out.at x hx
  have hl0 := hl 0
  change (Instr.lookup 92 (.map (some mb)) (.int .i64 x) true).run Tryd.prog Y0 = .ok _ Y0 at hl0
  obtain ⟨a, ha⟩ : ∃ a, (K x).getD zAd = a := ⟨_, rfl⟩
  obtain ⟨b, hbb⟩ : ∃ b, (K x).isSome = b := ⟨_, rfl⟩
  rw [ha] at hl0 had hFit
  rw [hbb] at hl0
  have c0 := HK.out.blk.cell 0
  simp only [List.getElem?_toArray, List.getElem?_cons_zero] at c0
  have hY1b := blk_at Y0 zAdA 47 rfl
  have hY1w := (Below.refl Y0.heap.size Y0).alloc (Nat.le_refl _) (.cells zAdA 47)
  obtain ⟨Y1, hY1⟩ : ∃ Y1, Y0.alloc (.cells zAdA 47) = Y1 := ⟨_, rfl⟩
  rw [hY1] at hY1b hY1w
  obtain ⟨Z1, hZ1⟩ : ∃ Z1, Y1.setRow Y0.heap.size (adA a vf vl) = Z1 := ⟨_, rfl⟩
  have z1 : Blk Z1 Y0.heap.size (adA a vf vl) 47 := by rw [← hZ1]; exact hY1b.setRow
  have z2 : Below Y0.heap.size Y0 Z1 := by rw [← hZ1]; exact below_setRow hY1w (Nat.le_refl _) _
  have HY1B := Lib.hid hY1b
  have HZ1 := Lib.hid hZ1
  have Z1B := Lib.hid z1
  have HW := Lib.hid (hY.trans (z2.mono hY.size))
  have HK1 := Lib.hid (hk.of_below z2)
  have HON := Lib.hid (ad_one had)
  have CC := Lib.hid (aclone_any B a vf vl Z1 (had.below z2) hFit)
  have HA := Lib.hid ha
  have HBB := Lib.hid hbb
  unfold zAdA at hY0 hY1
  clear hY hk hl h hx hFit had hY1b hY1w hZ1 z1 z2 ha hbb HK
  go_enter Tryd.func14, Tryd.ntmps14
  go_wp2_with (first | (refine wpList_store_rowZ rfl 47 (.tmp 6) (.tmp 18) rfl rfl Y0.heap.size (adA a vf vl) rfl rfl 47 zAdA HY1B.out ad_size rfl HON.out Z1 HZ1.out ?_) | (refine wpList_load_row rfl 47 (.tmp 6) rfl Y0.heap.size rfl 47 _ (0, 0) _ Z1B.out Tryd.underlying47 rfl ad_size ?_) | (fail))
  refine CC.out.mono ?_
  rintro e w2 ⟨vf2, vl2, rfl, hc1, hc2⟩
  have HC1 := Lib.hid hc1
  have HK2 := Lib.hid (HK1.out.of_below hc2)
  have HW2 := Lib.hid (HW.out.trans (hc2.mono HW.out.size))
  have hzz : w.heap.size ≤ Z1.heap.size := HW.out.size
  clear hc1 hc2 CC hl0 c0 hY0 hY1
  go_wp2_with (first | (refine wpList_store_rowTo rfl 47 (.tmp 4) (.tmp 21) rfl rfl w.heap.size (adA a vf2 vl2) rfl rfl 47 zAdA HK2.out ad_size rfl (ad_one HC1.out) ?_) | (fail))
  refine bodyPost_ret (v := .tuple #[.agg (adA a vf2 vl2), .bool b]) (results_row_tmp (t1 := 4) (t2 := 5) (ty1 := 47) (by kernel_rfl) _ _ w.heap.size 47 _ _ _ rfl rfl HK2.out.setRow Tryd.underlying47 rfl ad_size) rfl ?_
  refine ⟨vf2, vl2, by rw [HA.out, HBB.out], ?_, below_setRow HW2.out (Nat.le_refl _) _⟩
  rw [HA.out]
  refine ⟨?_, ?_⟩
  · exact (HC1.out.fs.mono hzz).same fun k hk => Go.setRow_other _ _ _ _ (fun c => HC1.out.fs.ne HK2.out (by decide) (c ▸ hk))
  · exact (HC1.out.ls.mono hzz).same fun k hk => Go.setRow_other _ _ _ _ (fun c => HC1.out.ls.ne HK2.out (by decide) (c ▸ hk))
theorem Sl.mapT {B size n mb m : Nat} {z : Value} {M : Int → Option Value} {w w' : World} {e : TypeId} {v : Value} {xs : List Value} (h : Sl B w e size v n xs) (hg : w.grownBy w' (some mb)) (ho : KMap mb z M m w) : Sl B w' e size v n xs :=
  h.grown hg (fun k hk e => by
    obtain ⟨es, c, ho⟩ := ho.obj
    injection e with e
    subst e
    obtain ⟨cur, e1⟩ := h.obj _ _ hk ho
    cases e1)
theorem AdAt.mapT {B mb m : Nat} {z : Value} {M : Int → Option Value} {w w' : World} {T : TypeId} {a : Ad} {vf vl : Value} (h : AdAt B w T a vf vl) (hg : w.grownBy w' (some mb)) (ho : KMap mb z M m w) : AdAt B w' T a vf vl := ⟨h.fs.mapT hg ho, h.ls.mapT hg ho⟩
theorem learn_yes {K : Kb} {a : Ad} (h1 : goodA a = true) (h2 : verOf K a.owner < a.version) : learn K a = fun b => if b = a.owner then some a else K b := by
  unfold learn
  rw [if_pos ⟨h1, h2⟩]
theorem learn_no {K : Kb} {a : Ad} (h : ¬ (goodA a = true ∧ verOf K a.owner < a.version)) : learn K a = K := by
  unfold learn
  rw [if_neg h]
/-- An advert more. -/
theorem KbAt.learn {B bp mb n : Nat} {K : Kb} {a : Ad} {vf vl : Value} {w : World} (h : KbAt B bp mb n K w) (h1 : goodA a = true) (h2 : verOf K a.owner < a.version) (had : AdAt B w 55 a vf vl) (hn : n < maxLen) :
    ∃ w', (Instr.mapUpdate 92 (.map (some mb)) (.int .i64 a.owner) (.agg (adA a vf vl))).run Tryd.prog w = .ok () w' ∧ KbAt B bp mb (n + 1) (Pl.learn K a) w' ∧ w.grownBy w' (some mb) := by
  obtain ⟨M, m1, m2⟩ := h.map
  obtain ⟨w', r1, r2, r3⟩ := m1.store (t := 92) (e := 47) Tryd.underlying92 (good_owner h1) (.agg (adA a vf vl)) hn
  refine ⟨w', r1, ⟨h.hb, h.hm, h.blk.grown r3 (fun c => m1.ne h.blk (by injection c)), ?_, _, r2, fun x => ?_⟩, r3⟩
  · rw [learn_yes h1 h2]
    intro x a' hx
    simp only at hx
    split at hx
    · rename_i e; cases hx; exact ⟨h1, e.symm⟩
    · exact h.ok x a' hx
  · rw [learn_yes h1 h2]
    unfold kput
    by_cases e : x = a.owner
    · simp only [if_pos e]
      exact ⟨vf, vl, rfl, had.mapT r3 m1⟩
    · simp only [if_neg e]
      have h3 := m2 x
      cases hK : K x with
      | none => rw [hK] at h3; exact h3
      | some a' =>
        rw [hK] at h3
        obtain ⟨vf', vl', h4, h5⟩ := h3
        exact ⟨vf', vl', h4, h5.mapT r3 m1⟩
theorem ver_get (K : Kb) (x : Int) : ((K x).getD zAd).version = verOf K x := by
  unfold verOf
  cases K x <;> rfl
theorem KbAt.mono {B bp mb n n' : Nat} {K : Kb} {w : World} (h : KbAt B bp mb n K w) (hn : n ≤ n') : KbAt B bp mb n' K w := by
  obtain ⟨M, ⟨D, m1, m3⟩, m2⟩ := h.map
  exact ⟨h.hb, h.hm, h.blk, h.ok, M, ⟨D, m1.mono hn, m3⟩, m2⟩
/-- What Learn comes to. -/
def LrnPost (B bp mb n : Nat) (K : Kb) (a : Ad) (w : World) (e : Ending) (w' : World) : Prop := ∃ (b : Bool) (c : Int), e = .returned (.tuple #[.bool b, .int .u8 c]) ∧ (goodA a = true → c = 0) ∧ KbAt B bp mb (n + 1) (Pl.learn K a) w' ∧ Fr B (mapS mb) w w'
theorem lrnPost_mk {B bp mb n : Nat} {K K' : Kb} {a : Ad} {w w' : World} {b : Bool} {c : Int} (hK : Pl.learn K a = K') (hc : goodA a = true → c = 0) (h : KbAt B bp mb (n + 1) K' w') (hf : Fr B (mapS mb) w w') : LrnPost B bp mb n K a w (.returned (.tuple #[.bool b, .int .u8 c])) w' := by
  subst hK
  exact ⟨b, c, rfl, hc, h, hf⟩
abbrev LS (X : World) (bp mb g : Nat) (o v : Int) (vf vl : Value) : Prop := X.cell? ⟨bp, 0, none⟩ = some (.map (some mb)) ∧ X.cell? ⟨g, 0, none⟩ = some (.int .i64 o) ∧ X.cell? ⟨g, 1, none⟩ = some (.int .i64 v) ∧ X.cell? ⟨g, 2, none⟩ = some vf ∧ X.cell? ⟨g, 3, none⟩ = some vl
theorem ls_of {X : World} {bp mb g : Nat} {a : Ad} {vf vl : Value} (h1 : Blk X bp #[.map (some mb)] 94) (h2 : Blk X g (adA a vf vl) 47) : LS X bp mb g a.owner a.version vf vl :=
  ⟨h1.cell 0, h2.cell 0, h2.cell 1, h2.cell 2, h2.cell 3⟩
set_option maxHeartbeats 2000000 in
set_option maxRecDepth 100000 in
theorem kblearn_any (B bp mb n : Nat) (K : Kb) (a : Ad) (vf vl : Value) (C : Nat) (w : World) (h : KbAt B bp mb n K w) (hn : n < 1000) (had : AdAt C w 55 a vf vl) (hfit : a.fits) (hT : Tabs w) :
    Calls Tryd.prog 19 #[.pointer (some ⟨bp, 0, none⟩), .agg (adA a vf vl)] w (LrnPost B bp mb n K a w) := by
  have hY := (Below.refl w.heap.size w).alloc (Nat.le_refl _) (.cells (adA a vf vl) 47)
  have hk := blk_at w (adA a vf vl) 47 rfl
  obtain ⟨Y, hYe⟩ : ∃ Y, w.alloc (.cells (adA a vf vl) 47) = Y := ⟨_, rfl⟩
  rw [hYe] at hY hk
  have HE := Lib.hid hYe
  have HB := Lib.hid hY
  have HK := Lib.hid (h.below hY)
  have HD := Lib.hid (had.below hY)
  have HBK := Lib.hid hk
  have HF := Lib.hid (Fr.of_below (S := mapS mb) hY h.sz)
  have CG := Lib.hid (good_any C a vf vl Y (had.below hY) hfit (hT.below hY))
  have hwY : w.heap.size < Y.heap.size := hk.lt
  unfold adA at HE ⊢
  clear hY hk hYe h had hT
  cases hg : goodA a
  · have HG := Lib.hid hg
    have HX := Lib.hid (learn_no (K := K) (a := a) (by rw [hg]; simp))
    rw [hg] at CG
    clear hg
    go_enter Tryd.func19, Tryd.ntmps19
    go_wp2_with (first | (rw [HE.out]) | (refine wpList_load_row rfl 47 (.tmp 3) rfl w.heap.size rfl 47 _ (0, 0) _ HBK.out Tryd.underlying47 rfl ad_size ?_) | (go_at_call 39; (with_reducible refine CG.out.mono ?_); rintro e w1 ⟨rfl, b1⟩; have HB1 := Lib.hid b1; clear b1) | (fail))
    go_ret2
    exact lrnPost_mk HX.out (fun c => by rw [HG.out] at c; cases c) ((HK.out.below HB1.out).mono (by omega)) (HF.out.trans (Fr.of_below HB1.out HK.out.sz))
  · have HG := Lib.hid hg
    rw [hg] at CG
    clear hg
    go_enter Tryd.func19, Tryd.ntmps19
    go_wp2_with (first | (rw [HE.out]) | (refine wpList_load_row rfl 47 (.tmp 3) rfl w.heap.size rfl 47 _ (0, 0) _ HBK.out Tryd.underlying47 rfl ad_size ?_) | (fail))
    refine CG.out.mono ?_
    rintro e w1 ⟨rfl, b1⟩
    have HK1 := Lib.hid (HK.out.below b1)
    have HBK1 := Lib.hid (HBK.out.of_below b1)
    have HD1 := Lib.hid (HD.out.below b1)
    have HF1 := Lib.hid (HF.out.trans (Fr.of_below b1 HK.out.sz))
    have hw1 : w.heap.size < w1.heap.size := Nat.lt_of_lt_of_le hwY b1.size
    obtain ⟨vf0, vl0, -, hl, -⟩ := HK1.out.at a.owner (good_owner HG.out)
    have hv := ver_get K a.owner
    obtain ⟨y, hy⟩ : ∃ y, (K a.owner).getD zAd = y := ⟨_, rfl⟩
    rw [hy] at hl hv
    obtain ⟨yo, yv, yf, yl⟩ := y
    simp only at hv
    unfold adA at hl
    simp only at hl
    have HV := Lib.hid hv
    have hfd : ∀ W : World, (Instr.field 47 (.agg #[.int .i64 yo, .int .i64 yv, vf0, vl0]) 1).run Tryd.prog W = .ok (.int .i64 yv) W := fun _ => by kernel_rfl
    obtain ⟨c0, k0, k1, k2, k3⟩ := ls_of HK1.out.blk HBK1.out
    clear b1 CG hy hv
    by_cases hver : a.version ≤ yv
    · have HX := Lib.hid (learn_no (K := K) (a := a) (by rw [← HV.out]; intro c; omega))
      go_wp2
      go_quiet (fail)
      go_wp2
      go_ret2
      exact lrnPost_mk HX.out (fun _ => rfl) ((HK1.out.below (drewN_below _ _)).mono (by omega)) (HF1.out.trans (Fr.of_below (drewN_below _ _) HK1.out.sz))
    · have HX := Lib.hid (learn_yes (K := K) (a := a) HG.out (by rw [← HV.out]; omega))
      have hvd : decide (a.version ≤ yv) = false := by simpa using hver
      have HVER := Lib.hid (show verOf K a.owner < a.version from by rw [← HV.out]; omega)
      clear hver
      go_wp2
      go_quiet (fail)
      go_wp2
      have hq := drewN_below w1 nq
      have HKQ := Lib.hid (HK1.out.below hq)
      have HDQ := Lib.hid (HD1.out.below hq)
      have HBQ := Lib.hid (HBK1.out.of_below hq)
      have HFQ := Lib.hid (HF1.out.trans (Fr.of_below hq HK1.out.sz))
      have hwq : w.heap.size < (w1.drewN nq).heap.size := hw1
      obtain ⟨Q1, hQ1⟩ : ∃ Q1, w1.drewN nq = Q1 := ⟨_, rfl⟩
      rw [hQ1] at HKQ HDQ HBQ HFQ hwq ⊢
      have s0 := ls_of HKQ.out.blk HBQ.out
      have sd : LS Q1.drew bp mb w.heap.size a.owner a.version vf vl := s0
      have CC := Lib.hid (aclone_any C a vf vl Q1.drew (HDQ.out.below (drewN_below Q1 1)) hfit)
      unfold adA at CC
      clear hq hQ1 c0 k0 k1 k2 k3 hl hfd
      go_region_held3 (fun X => LS X bp mb w.heap.size a.owner a.version vf vl) (first | (with_reducible assumption) | exact s0 | exact sd | exact y5 | exact y6) (first | (go_at_call 32; (with_reducible refine CC.out.mono ?_); rintro e w5 ⟨vf5, vl5, rfl, hd5, b5⟩; have b5' := (drewN_below Q1 1).trans (Below.mono (B' := Q1.heap.size) b5 (Nat.le_refl _)); have K5 := Lib.hid (HKQ.out.below b5'); have y5 : LS w5 bp mb w.heap.size a.owner a.version vf vl := ls_of K5.out.blk (HBQ.out.of_below b5'); obtain ⟨w6, hr6, hK6, hg6⟩ := K5.out.learn HG.out HVER.out (hd5.mono HKQ.out.sz) (by unfold maxLen; omega); have H6 := Lib.hid hK6; have HG6 := Lib.hid hg6; have F5 := Lib.hid (HFQ.out.trans (Fr.of_below b5' HKQ.out.sz)); have y6 : LS w6 bp mb w.heap.size a.owner a.version vf vl := ls_of hK6.blk ((HBQ.out.of_below b5').grown hg6 (fun c => by obtain ⟨M, m1, m2⟩ := K5.out.map; exact m1.ne (HBQ.out.of_below b5') (by injection c))); unfold adA at hr6; clear hK6 hg6 hd5 b5) | (fail))
      go_wp2
      go_ret2
      exact lrnPost_mk rfl (fun _ => rfl) H6.out (F5.out.grown HG6.out K5.out.sz (fun k hk => by injection hk with hk; subst hk; exact K5.out.hm) (fun k o hk _ => by injection hk with hk; exact .inl hk.symm))
end Go.Proofs.YtenoaonlngndpaaDoor

/- The pairs that were come to: a map by broker and topic. -/
namespace Go.Proofs.YtenoaonlngndpaaDoor
set_option linter.unusedVariables false
set_option linter.unusedSimpArgs false
open Go.RowKit Go.Maps Pl

def spotV (b : Int) (t : ByteArray) : Value := .agg #[.int .i64 b, .string t]
def spotL (b : Int) (t : ByteArray) : Lit := .string (keyBytes [.int .i64 b, .string t.data.toList])
theorem spot_laid : laidOutB Tryd.prog = true := by kernel_rfl
theorem spot_row : (77 : TypeId) < Tryd.prog.types.size := of_decide_eq_true (by kernel_rfl)
theorem spot_wide : (match Tryd.prog.underlying 77 with | some (.array _ _) | some (.struct _) => true | _ => false) = true := by rw [Tryd.underlying77]
theorem spot_kt : Tryd.prog.keyTypeAt 3 77 = true := by kernel_rfl
set_option maxRecDepth 100000 in
theorem spot_klaw : WideMaps.KeyLaw Tryd.prog 77 := deep_law_laid spot_laid (m := 3) (by decide) spot_row spot_kt spot_wide
theorem spot_law : Keyed Tryd.prog 77 := Keyed.of_law spot_klaw
theorem spot_type : Tryd.prog.keyType 77 = true := by kernel_rfl
theorem spot_size : ∃ m, Tryd.prog.types.size = m + 1 := ⟨Tryd.prog.types.size - 1, by kernel_rfl⟩
theorem spot_cells : Tryd.prog.cellsOf 77 = 2 := by kernel_rfl
theorem int_cells : Tryd.prog.cellsOf 3 = 1 := by kernel_rfl
theorem str_cells : Tryd.prog.cellsOf 9 = 1 := by kernel_rfl
theorem spot_key {b : Int} {t : ByteArray} (hb : (Lit.int .i64 b).wf = true) (ht : t.size ≤ maxLen) : keyOf Tryd.prog 77 (spotV b t) = some (spotL b t) := by
  have hu := Tryd.underlying77
  have hf : (spotV b t).formed Tryd.prog 77 = true := by
    unfold spotV
    simp [Value.formed, hu, spot_cells]
  obtain ⟨m, hm⟩ := spot_size
  unfold keyOf
  rw [hu]
  simp only [spot_type, hf, Bool.and_self, if_true, hm]
  simp [spotV, spotL, Value.cells, Program.keyLits, hu, spot_cells, int_cells, str_cells, Tryd.underlying3, Tryd.underlying9, hb, ht]
theorem spot_inj {b b' : Int} {t t' : ByteArray} (hb : (Lit.int .i64 b).wf = true) (ht : t.size ≤ maxLen) (hb' : (Lit.int .i64 b').wf = true) (ht' : t'.size ≤ maxLen) (h : spotL b t = spotL b' t') : b = b' ∧ t = t' := by
  have h1 := spot_law.inj (spot_key hb ht) (by rw [h]; exact spot_key hb' ht')
  unfold spotV at h1
  simp at h1
  exact h1
theorem zero_bool (w : World) : (zeroValue 4).run Tryd.prog w = .ok (.bool false) w := by kernel_rfl
theorem elem_bool_inv {v : Value} {b : Bool} {ps : List MemPlace} (h : plainElem (H := Unit) Tryd.prog 4 v = some (.lit (.bool b), ps)) : v = .bool b := by
  have hu := Tryd.underlying4
  revert h hu
  generalize Tryd.prog = P
  intro h hu
  unfold plainElem at h
  rw [hu] at h
  cases v <;> simp at h
  rw [h.1]
/-- The map holds what is in 'out'. -/
def SpotAt (mb : Nat) (out : List Plc) (n : Nat) (w : World) : Prop := ∃ D : DataW Unit, w.ownsMap Tryd.prog 77 (plainElem Tryd.prog 4) mb n D ∧
  ∀ (b : Int) (t : ByteArray), (Lit.int .i64 b).wf = true → t.size ≤ maxLen → D.atKey (spotL b t) (.lit (.bool false)) = .lit (.bool (metP out b t))
theorem SpotAt.new (w : World) : SpotAt w.heap.size [] 0 (w.alloc (.map #[] 0)) := ⟨.map [], World.ownsMap_made _ _ _ _, fun b t _ _ => rfl⟩
theorem SpotAt.lt {mb n : Nat} {out : List Plc} {w : World} (h : SpotAt mb out n w) : mb < w.heap.size := by obtain ⟨D, h1, _⟩ := h; exact h1.lt
theorem SpotAt.same {mb n : Nat} {out : List Plc} {w w' : World} (h : SpotAt mb out n w) (hs : w'.heap[mb]? = w.heap[mb]?) : SpotAt mb out n w' := by
  obtain ⟨D, ⟨es, clock, hb, r⟩, r2⟩ := h
  exact ⟨D, ⟨es, clock, hs.trans hb, r⟩, r2⟩
theorem SpotAt.below {mb n : Nat} {out : List Plc} {w w' : World} (h : SpotAt mb out n w) (m : Below w.heap.size w w') : SpotAt mb out n w' := h.same (m.block mb h.lt)
theorem SpotAt.obj {mb n : Nat} {out : List Plc} {w : World} (h : SpotAt mb out n w) : ∃ es clock, w.heap[mb]? = some (.map es clock) := by
  obtain ⟨D, ⟨es, clock, hb, r⟩, r2⟩ := h
  exact ⟨es, clock, hb⟩
theorem SpotAt.look {mb n : Nat} {out : List Plc} {w : World} (h : SpotAt mb out n w) {b : Int} {t : ByteArray} (hb : (Lit.int .i64 b).wf = true) (ht : t.size ≤ maxLen) :
    (Instr.lookup 78 (.map (some mb)) (spotV b t) false).run Tryd.prog w = .ok (.bool (metP out b t)) w := by
  obtain ⟨D, h1, h3⟩ := h
  obtain ⟨v, ps, hr, hv⟩ := h1.lookup spot_law Tryd.underlying78 (zero_bool w) (plainElem_bool Tryd.underlying4 false) (spot_key hb ht)
  rw [h3 b t hb ht] at hv
  rw [elem_bool_inv hv] at hr
  exact hr
theorem metP_snoc (out : List Plc) (p : Plc) (b : Int) (t : ByteArray) : metP (out ++ [p]) b t = (metP out b t || (decide (p.br = b) && decide (p.tp = t))) := by
  unfold metP
  rw [List.any_append]
  simp
theorem SpotAt.store {mb n : Nat} {out : List Plc} {w : World} (h : SpotAt mb out n w) (p : Plc) (hb : (Lit.int .i64 p.br).wf = true) (ht : p.tp.size ≤ maxLen) (hn : n < maxLen) :
    ∃ w', (Instr.mapUpdate 78 (.map (some mb)) (spotV p.br p.tp) (.bool true)).run Tryd.prog w = .ok () w' ∧ SpotAt mb (out ++ [p]) (n + 1) w' ∧ w.grownBy w' (some mb) := by
  obtain ⟨D, h1, h3⟩ := h
  have hk : WideAt.IsKeyLit (spotL p.br p.tp) := trivial
  obtain ⟨w', hr, q1, q2⟩ := h1.update spot_law Tryd.underlying78 hn (spot_key hb ht) (plainElem_bool Tryd.underlying4 true)
  refine ⟨w', hr, ⟨D.put (spotL p.br p.tp) (.lit (.bool true)), q1, fun b t hb' ht' => ?_⟩, q2⟩
  rw [metP_snoc]
  by_cases e : p.br = b ∧ p.tp = t
  · obtain ⟨rfl, rfl⟩ := e
    rw [atKey_put_same h1.isMap hk]
    simp
  · have hne : spotL b t ≠ spotL p.br p.tp := fun c => e (by obtain ⟨a1, a2⟩ := spot_inj hb' ht' hb ht c; exact ⟨a1.symm, a2.symm⟩)
    rw [atKey_put_other hne, h3 b t hb' ht']
    have : (decide (p.br = b) && decide (p.tp = t)) = false := by
      rw [← Bool.not_eq_true]
      simp only [Bool.and_eq_true, decide_eq_true_eq]
      exact e
    rw [this, Bool.or_false]
end Go.Proofs.YtenoaonlngndpaaDoor

/- chase.Places. -/
namespace Go.Proofs.YtenoaonlngndpaaDoor
set_option linter.unusedVariables false
set_option linter.unusedSimpArgs false
open Go.RowKit Go.Maps Pl Go.Shelf

theorem info_plc : (Tryd.prog.info? 37).map (fun i => (i.zero, i.size, i.bytes)) = some (some (.agg #[.int .i64 0, .string ⟨#[]⟩, .int .i64 0]), 3, 32) := by kernel_rfl
theorem trn_size (r : Rl) (n f t : ByteArray) : (trn r n f t).1.size ≤ 256 := by
  unfold trn
  split
  · rename_i h
    simp only [Bool.and_eq_true] at h
    exact nameB_size h.2.2.2.2
  · exact Nat.zero_le _
theorem toRem_size (r : Rl) (n : ByteArray) : (toRem r n).1.size ≤ 256 := by
  unfold toRem
  split
  · exact Nat.zero_le _
  · exact trn_size _ _ _ _
theorem lks_get (K : Kb) (x : Int) : ((K x).getD zAd).ls = lks K x := by
  unfold lks
  cases K x <;> rfl
theorem fls_get (K : Kb) (x : Int) : ((K x).getD zAd).fs = fls K x := by
  unfold fls
  cases K x <;> rfl
/-- What always holds of the places. -/
def PlB (H : Int) (out : List Plc) : Prop := out.length ≤ 256 ∧ ∀ p ∈ out, 0 ≤ p.hp ∧ p.hp ≤ H ∧ p.tp.size ≤ 256 ∧ 0 ≤ p.br ∧ p.br < 8
theorem wf_8 {x : Int} (h0 : 0 ≤ x) (h1 : x < 8) : (Lit.int .i64 x).wf = true := by
  simp [Lit.wf, IntKind.min, IntKind.max, IntKind.signed, IntKind.bits]; omega
theorem PlB.snoc {H : Int} {out : List Plc} {q : Plc} (h : PlB H out) (hl : out.length < 256) (h0 : 0 ≤ q.hp) (h1 : q.hp ≤ H) (h2 : q.tp.size ≤ 256) (h3 : 0 ≤ q.br) (h4 : q.br < 8) : PlB H (out ++ [q]) := by
  refine ⟨by simp; omega, fun p hp => ?_⟩
  rcases List.mem_append.1 hp with hp | hp
  · exact h.2 p hp
  · obtain rfl := List.mem_singleton.1 hp
    exact ⟨h0, h1, h2, h3, h4⟩
theorem good_peer {a : Ad} (h : goodA a = true) {l : Lk} (hl : l ∈ a.ls) : 0 ≤ l.peer ∧ l.peer < 8 := by
  unfold goodA at h
  simp only [Bool.and_eq_true, decide_eq_true_eq] at h
  have := List.all_eq_true.1 h.2 l hl
  simp only [Bool.and_eq_true, decide_eq_true_eq] at this
  exact this.1.1
theorem lks_ok {K : Kb} (h : KbOk K) {x : Int} {l : Lk} (hl : l ∈ lks K x) : l.rule.fits ∧ 0 ≤ l.peer ∧ l.peer < 8 := by
  unfold lks at hl
  cases hK : K x with
  | none => rw [hK] at hl; cases hl
  | some a =>
    rw [hK] at hl
    simp only at hl
    exact ⟨(good_fits (h x a hK).1).ls l hl, good_peer (h x a hK).1 hl⟩
theorem lks_len {K : Kb} (h : KbOk K) (x : Int) : (lks K x).length ≤ 1048576 := by
  rw [← lks_get]
  exact (h.fits x).nl
/-- The rules of a place, so far. -/
def InR (p : Plc) (H : Int) (ls : List Lk) (out : List Plc) (j : Nat) (o2 : List Plc) : Prop := (p.hp = H ∧ o2 = out) ∨ (p.hp ≠ H ∧ plLinks p ls out = plLinks p (ls.drop j) o2)
theorem InR.start (p : Plc) (H : Int) (ls : List Lk) (out : List Plc) : InR p H ls out 0 out := by
  by_cases h : p.hp = H
  · exact .inl ⟨h, rfl⟩
  · exact .inr ⟨h, by simp⟩
theorem drop_here {α : Type} {l : List α} {j : Nat} {x : α} (h : l[j]? = some x) : l.drop j = x :: l.drop (j + 1) := by
  have hj := (List.getElem?_eq_some_iff.1 h).1
  rw [List.drop_eq_getElem_cons hj]
  congr 1
  exact (List.getElem?_eq_some_iff.1 h).2
theorem InR.skip {p : Plc} {H : Int} {ls : List Lk} {out o2 : List Plc} {j : Nat} {l : Lk} (h : InR p H ls out j o2) (hl : ls[j]? = some l) (hc : p.hp = H ∨ (toRem l.rule p.tp).2 = false ∨ metP o2 l.peer (toRem l.rule p.tp).1 = true) : InR p H ls out (j + 1) o2 := by
  rcases h with c | ⟨h1, h2⟩
  · exact .inl c
  · refine .inr ⟨h1, ?_⟩
    rw [h2, drop_here hl]
    conv => lhs; unfold plLinks
    rcases hc with c | c | c
    · exact absurd c h1
    · rw [if_pos (.inl c)]
    · rw [if_pos (.inr c)]
theorem InR.add {p : Plc} {H : Int} {ls : List Lk} {out o2 : List Plc} {j : Nat} {l : Lk} (h : InR p H ls out j o2) (hl : ls[j]? = some l) (h0 : p.hp ≠ H) (h1 : (toRem l.rule p.tp).2 = true) (h2 : metP o2 l.peer (toRem l.rule p.tp).1 = false) (h3 : ¬ 256 ≤ o2.length) :
    InR p H ls out (j + 1) (o2 ++ [⟨l.peer, (toRem l.rule p.tp).1, p.hp + 1⟩]) := by
  rcases h with ⟨c, _⟩ | ⟨_, h⟩
  · exact absurd c h0
  · refine .inr ⟨h0, ?_⟩
    rw [h, drop_here hl]
    conv => lhs; unfold plLinks
    rw [if_neg (by rintro (c | c); rw [h1] at c; cases c; rw [h2] at c; cases c), if_neg h3]
theorem InR.full {p : Plc} {H : Int} {ls : List Lk} {out o2 : List Plc} {j : Nat} {l : Lk} (h : InR p H ls out j o2) (hl : ls[j]? = some l) (h0 : p.hp ≠ H) (h1 : (toRem l.rule p.tp).2 = true) (h2 : metP o2 l.peer (toRem l.rule p.tp).1 = false) (h3 : 256 ≤ o2.length) :
    plLinks p ls out = (o2, false) := by
  rcases h with ⟨c, _⟩ | ⟨_, h⟩
  · exact absurd c h0
  · rw [h, drop_here hl]
    conv => lhs; unfold plLinks
    rw [if_neg (by rintro (c | c); rw [h1] at c; cases c; rw [h2] at c; cases c), if_pos h3]
theorem plLoop_in {K : Kb} {H : Int} {f i : Nat} {p : Plc} {out o2 : List Plc} (hp : out[i]? = some p) (h : InR p H (lks K p.br) out (lks K p.br).length o2) : plLoop K H (f + 1) i out = plLoop K H f (i + 1) o2 := by
  conv => lhs; unfold plLoop
  rw [hp]
  simp only
  rcases h with ⟨c, rfl⟩ | ⟨c, h⟩
  · rw [if_pos c]
  · rw [List.drop_length] at h
    rw [if_neg c, h]
    rfl
theorem plLoop_stop {K : Kb} {H : Int} {f i : Nat} {p : Plc} {out o2 : List Plc} (hp : out[i]? = some p) (h0 : p.hp ≠ H) (h : plLinks p (lks K p.br) out = (o2, false)) : plLoop K H (f + 1) i out = (o2, false) := by
  conv => lhs; unfold plLoop
  rw [hp]
  simp only
  rw [if_neg h0, h]
  rfl
theorem plLoop_end {K : Kb} {H : Int} {f i : Nat} {out : List Plc} (hp : out.length ≤ i) : plLoop K H f i out = (out, true) := by
  cases f with
  | zero => rfl
  | succ f =>
    conv => lhs; unfold plLoop
    rw [List.getElem?_eq_none hp]
/-- What Places comes to. -/
def PlcPost (r : List Plc × Bool) (w : World) (e : Ending) (w' : World) : Prop := ∃ v H, e = .returned (.tuple #[v, .bool r.2]) ∧ Sl w.heap.size w' 37 3 v r.1.length (r.1.flatMap plC) ∧ Below w.heap.size w w' ∧ PlB H r.1
theorem plcPost_mk {r : List Plc × Bool} {out : List Plc} {b : Bool} {w w' : World} {v : Value} (hr : r = (out, b)) (h : Sl w.heap.size w' 37 3 v out.length (out.flatMap plC)) (hb : Below w.heap.size w w') {H : Int} (hP : PlB H out) : PlcPost r w (.returned (.tuple #[v, .bool b])) w' := by
  subst hr
  exact ⟨v, H, rfl, h, hb, hP⟩
theorem plB_nil : PlB 0 [] := ⟨by simp, fun p hp => by cases hp⟩
theorem SpotAt.kept {mb n : Nat} {out : List Plc} {w w' : World} {row : Option Nat} (h : SpotAt mb out n w) (hg : w.grownBy w' row) (hne : row ≠ some mb) : SpotAt mb out n w' := h.same (hg.block mb h.lt (fun e => hne e.symm))
theorem Sl.spot {B size n mb m : Nat} {out : List Plc} {w w' : World} {e : TypeId} {v : Value} {xs : List Value} (h : Sl B w e size v n xs) (hg : w.grownBy w' (some mb)) (ho : SpotAt mb out m w) : Sl B w' e size v n xs :=
  h.grown hg (fun k hk e => by
    obtain ⟨es, c, ho⟩ := ho.obj
    injection e with e
    subst e
    obtain ⟨cur, e1⟩ := h.obj _ _ hk ho
    cases e1)
theorem Blk.spot {mb m b : Nat} {out : List Plc} {w w' : World} {T : TypeId} {cs : Array Value} (h : Blk w b cs T) (hg : w.grownBy w' (some mb)) (ho : SpotAt mb out m w) : Blk w' b cs T :=
  h.grown hg (fun c => by
    obtain ⟨es, c', ho⟩ := ho.obj
    injection c with c
    subst c
    unfold Blk at h
    rw [h] at ho
    cases ho)
theorem Sl.notSpot {B size n mb m : Nat} {out : List Plc} {w : World} {e : TypeId} {v : Value} {xs : List Value} (h : Sl B w e size v n xs) (ho : SpotAt mb out m w) : v.ownBlock ≠ some mb := by
  intro c
  obtain ⟨es, c', ho⟩ := ho.obj
  obtain ⟨cur, e1⟩ := h.obj _ _ c ho
  cases e1
theorem wpList_pl {ops : Array Oper} {rest : List Oper} {o : Oper} {a : Act} {w : World} {Q : Exit → Act → World → Prop} (s x : Operand) (B n : Nat) (v : Value) (l : List Plc) (q : Plc) (b : Nat)
    (hgd : o.guard = none) (ho : o.op = .call { callee := .builtin .append, args := #[s, x], argTypes := #[28, 28] })
    (hs : a.eval s = v) (hx : a.eval x = .slice (some ⟨b, 0, none⟩) 1 1) (h : Sl B w 37 3 v n (l.flatMap plC)) (hb : Blk w b (plA q) 37) (hB : B ≤ w.heap.size) (hl : n ≤ 1048576)
    (hK : ∀ v' w', Sl B w' 37 3 v' (n + 1) ((l ++ [q]).flatMap plC) → w.grownBy w' v.ownBlock → (v'.ownBlock = v.ownBlock ∨ v'.ownBlock = some w.heap.size) → wpList Tryd.prog ops Q rest (a.put o.dst v') w') :
    wpList Tryd.prog ops Q (o :: rest) a w := by
  obtain ⟨i1, hi1, hi1z, hi1s, hi1b⟩ := info_parts info_plc
  refine wpList_append_sl s x 28 i1 _ _ b (plA q) hgd ho Tryd.underlying28 hi1 hi1z hi1s hi1b rfl (by decide) rfl (by intro u hu; exact plC_one q u hu) hs hx h hb hB (by unfold maxLen; omega) (by omega) ?_
  intro v' w' r1 r2 r3
  exact hK v' w' (by rw [flat_snoc]; exact r1) r2 r3
end Go.Proofs.YtenoaonlngndpaaDoor

/- chase.Places: the walk. -/
namespace Go.Proofs.YtenoaonlngndpaaDoor
set_option linter.unusedVariables false
set_option linter.unusedSimpArgs false
open Go.RowKit Go.Maps Pl Go.Shelf

set_option maxHeartbeats 8000000 in
set_option maxRecDepth 100000 in
theorem places_any (B bp mb n : Nat) (K : Kb) (at' h : Int) (name : ByteArray) (w : World) (hK : KbAt B bp mb n K w) (ha0 : -9223372036854775808 ≤ at') (ha1 : at' ≤ 9223372036854775807) (hh0 : -9223372036854775808 ≤ h) (hh1 : h ≤ 9223372036854775807) (hn : name.size ≤ 281474976710656) (hT : Tabs w) :
    Calls Tryd.prog 8 #[.pointer (some ⟨bp, 0, none⟩), .int .i64 at', .string name, .int .i64 h] w (PlcPost (places K at' name h) w) := by
  have CN := Lib.hid (checkname_any name w hn hT)
  have HK := Lib.hid hK
  have HT := Lib.hid hT
  have hno : ∀ (hx : plOk at' name h = false), Hid (places K at' name h = ([], true)) := fun hx => Lib.hid (by unfold places; rw [hx]; rfl)
  clear hK hT
  cases hnm : nameB name
  · have HX := hno (by unfold plOk; rw [hnm]; rfl)
    have hc : nameC name = 144 := by unfold nameC; rw [hnm]; rfl
    rw [hc] at CN
    clear hnm hc hno
    go_enter Tryd.func8, Tryd.ntmps8
    go_wp2_with (first | (go_at_call 13; (with_reducible refine CN.out.mono ?_); rintro e w1 ⟨rfl, b1⟩; have HB1 := Lib.hid b1; clear b1) | (fail))
    go_ret2
    exact plcPost_mk HX.out (Sl.nil _ _ _ _) HB1.out plB_nil
  have hc : nameC name = 0 := by unfold nameC; rw [hnm]; rfl
  rw [hc] at CN
  clear hc
  by_cases h1 : at' < 0
  · have HX := hno (by unfold plOk; rw [decide_eq_false (show ¬ 0 ≤ at' by omega)]; simp)
    clear hnm hno
    go_enter Tryd.func8, Tryd.ntmps8
    go_wp2_with (first | (go_at_call 13; (with_reducible refine CN.out.mono ?_); rintro e w1 ⟨rfl, b1⟩; have HB1 := Lib.hid b1; clear b1) | (fail))
    go_ret2
    exact plcPost_mk HX.out (Sl.nil _ _ _ _) HB1.out plB_nil
  have d1 : decide (at' < 0) = false := by simpa using h1
  by_cases h2 : 8 ≤ at'
  · have HX := hno (by unfold plOk; rw [decide_eq_false (show ¬ at' < 8 by omega)]; simp)
    clear hnm hno
    go_enter Tryd.func8, Tryd.ntmps8
    go_wp2_with (first | (go_at_call 13; (with_reducible refine CN.out.mono ?_); rintro e w1 ⟨rfl, b1⟩; have HB1 := Lib.hid b1; clear b1) | (fail))
    go_ret2
    exact plcPost_mk HX.out (Sl.nil _ _ _ _) HB1.out plB_nil
  have d2 : decide (8 ≤ at') = false := by simpa using h2
  by_cases h3 : h < 0
  · have HX := hno (by unfold plOk; rw [decide_eq_false (show ¬ 0 ≤ h by omega)]; simp)
    clear hnm hno
    go_enter Tryd.func8, Tryd.ntmps8
    go_wp2_with (first | (go_at_call 13; (with_reducible refine CN.out.mono ?_); rintro e w1 ⟨rfl, b1⟩; have HB1 := Lib.hid b1; clear b1) | (fail))
    go_ret2
    exact plcPost_mk HX.out (Sl.nil _ _ _ _) HB1.out plB_nil
  have d3 : decide (h < 0) = false := by simpa using h3
  obtain ⟨H, hH⟩ : ∃ H : Int, min h 32 = H := ⟨_, rfl⟩
  have hH0 : 0 ≤ H := by omega
  have hH1 : H ≤ 32 := by omega
  have HX := Lib.hid (show places K at' name h = plLoop K H 257 0 [⟨at', name, 0⟩] by
    unfold places plOk
    rw [hnm, decide_eq_true (show 0 ≤ at' by omega), decide_eq_true (show at' < 8 by omega), decide_eq_true (show 0 ≤ h by omega), hH]
    rfl)
  have hns := nameB_size hnm
  clear hno hnm
  go_enter Tryd.func8, Tryd.ntmps8
  go_wp2_with fail
  refine CN.out.mono ?_
  rintro e w1 ⟨rfl, b1⟩
  have k1 := blk_at w1 (plA ⟨at', name, 0⟩) 37 rfl
  have bb1 := b1.alloc b1.size (.cells (plA ⟨at', name, 0⟩) 37)
  have ho1 : (w1.alloc (.cells (plA ⟨at', name, 0⟩) 37)).ownsRow w.heap.size 37 3 (.slice (some ⟨w1.heap.size, 0, none⟩) 1 1) 1 (plC ⟨at', name, 0⟩) := by
    refine ⟨rfl, .inr ⟨w1.heap.size, 1, _, rfl, b1.size, k1, by omega, by unfold maxLen; omega, by simp [plA], rfl⟩⟩
  obtain ⟨Y1, hY1⟩ : ∃ Y1, w1.alloc (.cells (plA ⟨at', name, 0⟩) 37) = Y1 := ⟨_, rfl⟩
  rw [hY1] at k1 bb1 ho1
  have hs2 := SpotAt.new Y1
  have bb2 := bb1.alloc bb1.size (.map #[] 0)
  have ho2 := (Sl.of_own ho1).alloc (.map #[] 0)
  obtain ⟨Y2, hY2⟩ : ∃ Y2, Y1.alloc (.map #[] 0) = Y2 := ⟨_, rfl⟩
  rw [hY2] at hs2 bb2 ho2
  obtain ⟨w3, hr3, hs3, hg3⟩ := hs2.store ⟨at', name, 0⟩ (wf_8 (by show 0 ≤ at'; omega) (by show at' < 8; omega)) (by show name.size ≤ maxLen; unfold maxLen; omega) (by unfold maxLen; omega)
  have HO3 := Lib.hid (ho2.spot hg3 hs2)
  have HB3 := Lib.hid (bb2.grown hg3 bb2.size (fun k hk => by injection hk with hk; subst hk; exact bb1.size))
  have HS3 := Lib.hid hs3
  have hmm := @run_makeMap Tryd.prog
  unfold spotV at hr3
  unfold plA at hY1
  obtain ⟨sm, hsm⟩ : ∃ sm, Y1.heap.size = sm := ⟨_, rfl⟩
  have hsw : w.heap.size ≤ sm := by rw [← hsm]; exact bb1.size
  rw [hsm] at hr3 HS3
  have hHm : min h 32 = H := hH
  clear k1 bb1 ho1 hs2 bb2 ho2 hs3 hg3 b1 CN hH
  go_wp2
  clear hY1 hY2 hr3 hmm hsm hHm d1 d2 d3
  go_loopw [10, 12] (fun ov iv wr => ∃ (i f : Nat) (out : List Plc), iv = .int .i64 i ∧ i ≤ 256 ∧ f + i = 257 ∧ Hid (i ≤ out.length) ∧ Hid (places K at' name h = plLoop K H f i out) ∧ Hid (PlB H out) ∧ Hid (Sl w.heap.size wr 37 3 ov out.length (out.flatMap plC)) ∧ Hid (SpotAt sm out out.length wr) ∧ Hid (Below w.heap.size w wr)) (fun _ iv _ => (257 - intOf iv).toNat)
  case atStart => exact ⟨0, 257, [⟨at', name, 0⟩], rfl, by omega, rfl, Lib.hid (by simp), HX, Lib.hid ⟨by simp, fun p hp => by obtain rfl := List.mem_singleton.1 hp; exact ⟨Int.le_refl _, hH0, hns, by show 0 ≤ at'; omega, by show at' < 8; omega⟩⟩, HO3, HS3, HB3⟩
  case round =>
    obtain ⟨i, f, out, rfl, hi, hf, hil, hX, hP, hO, hS, hW⟩ := hrel
    obtain ⟨ao, cap, rfl, q1, q2, -⟩ := hO.out.form
    have hol : out.length ≤ 256 := hP.out.1
    by_cases hio : i < out.length
    · obtain ⟨p, hp⟩ : ∃ p, out[i]? = some p := ⟨_, List.getElem?_eq_getElem hio⟩
      have hpb := hP.out.2 p (List.mem_of_getElem? hp)
      obtain ⟨g, o, c', ev, hg0, hg1, -, -, hcl⟩ := hO.out.at (by omega)
      injection ev with e1 e2 e3
      subst e1
      subst e3
      clear e2
      have e0 := hcl (i * 3) _ (flat_get plC 3 (fun _ => rfl) out i p hp 0 _ rfl)
      have e1 := hcl (i * 3 + 1) _ (flat_get plC 3 (fun _ => rfl) out i p hp 1 _ rfl)
      have e2 := hcl (i * 3 + 2) _ (flat_get plC 3 (fun _ => rfl) out i p hp 2 _ rfl)
      simp only [← Nat.add_assoc] at e1 e2
      have hiI : (i : Int) < (out.length : Int) := by omega
      have HP0 := Lib.hid hp
      obtain ⟨f', rfl⟩ : ∃ f', f = f' + 1 := ⟨f - 1, by omega⟩
      have k1 := blk_at wr (plA p) 37 rfl
      have bX := (Below.refl wr.heap.size wr).alloc (Nat.le_refl _) (.cells (plA p) 37)
      obtain ⟨X1, hX1⟩ : ∃ X1, wr.alloc (.cells (plA p) 37) = X1 := ⟨_, rfl⟩
      rw [hX1] at k1 bX
      have hXW := hW.out.trans (bX.mono hW.out.size)
      have CO := Lib.hid (kbof_any B bp mb n K p.br X1 (HK.out.below hXW) (wf_8 hpb.2.2.2.1 hpb.2.2.2.2))
      have HO1 := Lib.hid (hO.out.below bX)
      have HS1 := Lib.hid (hS.out.below bX)
      have HW1 := Lib.hid hXW
      have HK1 := Lib.hid k1
      have hb13 : wr.heap.size < X1.heap.size := k1.lt
      have x0 := k1.cell 0
      simp only [plA, List.getElem?_toArray, List.getElem?_cons_zero] at x0
      have HNB := Lib.hid (show (Value.slice (some ⟨g, o, none⟩) out.length cap).ownBlock ≠ some wr.heap.size from fun c => by simp [Value.ownBlock] at c; omega)
      have hww : w.heap.size ≤ wr.heap.size := hW.out.size
      obtain ⟨hp0, hp1, hp2, -, -⟩ := hpb
      have HPL := hP
      have HIO := Lib.hid hio
      unfold plA at hX1
      clear k1 bX hXW hcl hp hO hS hW hil hio
      go_wp2_with fail
      refine CO.out.mono ?_
      rintro e w4 ⟨vf, vl, rfl, had, b4⟩
      have hls : Sl X1.heap.size w4 55 6 vl (lks K p.br).length ((lks K p.br).flatMap lkC) := by rw [← lks_get]; exact had.ls
      have hll := lks_len HK.out.ok p.br
      have hlo := fun (l : Lk) (hl : l ∈ lks K p.br) => lks_ok HK.out.ok hl
      obtain ⟨LL, hLL⟩ : ∃ LL, lks K p.br = LL := ⟨_, rfl⟩
      rw [hLL] at hls hll hlo
      have HLL := Lib.hid hLL
      have HLO := Lib.hid hlo
      obtain ⟨af, kf, rfl, -, -, -⟩ := had.fs.form
      obtain ⟨al, kl, rfl, ql1, ql2, -⟩ := hls.form
      obtain ⟨a, ha⟩ : ∃ a, (K p.br).getD zAd = a := ⟨_, rfl⟩
      obtain ⟨bk, hbk⟩ : ∃ bk, (K p.br).isSome = bk := ⟨_, rfl⟩
      rw [ha, hbk]
      unfold adA
      unfold maxLen at ql2
      have bX5 := (Below.refl w4.heap.size w4).alloc (Nat.le_refl _) (.cells #[.int .i64 a.owner, .int .i64 a.version, .slice af a.fs.length kf, .slice al LL.length kl] 47)
      obtain ⟨X5, hX5⟩ : ∃ X5, w4.alloc (.cells #[.int .i64 a.owner, .int .i64 a.version, .slice af a.fs.length kf, .slice al LL.length kl] 47) = X5 := ⟨_, rfl⟩
      rw [hX5] at bX5
      have x53 : X5.cell? ⟨w4.heap.size, 3, none⟩ = some (.slice al LL.length kl) := by rw [← hX5]; exact (blk_at w4 #[.int .i64 a.owner, .int .i64 a.version, .slice af a.fs.length kf, .slice al LL.length kl] 47 rfl).cell 3
      have b15 := b4.trans (bX5.mono b4.size)
      have HP5 := Lib.hid (HK1.out.of_below b15)
      have HL5 := Lib.hid (hls.below bX5)
      have HO5 := Lib.hid (HO1.out.below b15)
      have HS5 := Lib.hid (HS1.out.below b15)
      have HW5 := Lib.hid (HW1.out.trans (b15.mono HW1.out.size))
      have hw5 : wr.heap.size < X5.heap.size := HP5.out.lt
      clear had hls hlo hLL b4 bX5 b15 CO HO1 HS1 HW1 HK1 x0 e0 e1 e2 hX1 ha hbk
      go_wp2
      obtain ⟨b13, hbe⟩ : ∃ b13, wr.heap.size = b13 := ⟨_, rfl⟩
      rw [hbe] at HNB HP5 hw5 ⊢
      clear x53 hX5 hbe hg1 hb13 hww
      go_loopw [10, 67] (fun ov jv w6 => ∃ (j : Nat) (o2 : List Plc), jv = .int .i64 j ∧ j ≤ LL.length ∧ Hid (InR p H LL out j o2) ∧ Hid (PlB H o2) ∧ Hid (out.length ≤ o2.length) ∧ Hid (ov.ownBlock ≠ some b13) ∧ Hid (Sl w.heap.size w6 37 3 ov o2.length (o2.flatMap plC)) ∧ Hid (SpotAt sm o2 o2.length w6) ∧ Hid (Blk w6 b13 (plA p) 37) ∧ Hid (Sl X1.heap.size w6 55 6 (.slice al LL.length kl) LL.length (LL.flatMap lkC)) ∧ Hid (Below w.heap.size w w6)) (fun _ jv _ => (LL.length - (intOf jv).toNat))
      case atStart => exact ⟨0, out, rfl, Nat.zero_le _, Lib.hid (InR.start p H LL out), HPL, Lib.hid (Nat.le_refl _), HNB, HO5, HS5, HP5, HL5, HW5⟩
      case round =>
        obtain ⟨j, o2, rfl, hj, hIn, hP2, hLe, hNb, hO2, hS2, hB13, hL2, hW2⟩ := hrel
        obtain ⟨ao2, cap2, rfl, r1, r2, -⟩ := hO2.out.form
        have ho2 : o2.length ≤ 256 := hP2.out.1
        unfold maxLen at r2
        by_cases hjl : j < LL.length
        · obtain ⟨l, hl⟩ : ∃ l, LL[j]? = some l := ⟨_, List.getElem?_eq_getElem hjl⟩
          have hjI : (j : Int) < (LL.length : Int) := by omega
          obtain ⟨hlf, hlp0, hlp1⟩ := HLO.out l (List.mem_of_getElem? hl)
          obtain ⟨g6, o6, c6, ev, -, -, -, -, hcl⟩ := hL2.out.at (by omega)
          injection ev with e1 e2 e3
          subst e1
          subst e3
          clear e2
          have m0 := hcl (j * 6) _ (flat_get lkC 6 (fun _ => rfl) LL j l hl 0 _ rfl)
          have m1 := hcl (j * 6 + 1) _ (flat_get lkC 6 (fun _ => rfl) LL j l hl 1 _ rfl)
          have m2 := hcl (j * 6 + 2) _ (flat_get lkC 6 (fun _ => rfl) LL j l hl 2 _ rfl)
          have m3 := hcl (j * 6 + 3) _ (flat_get lkC 6 (fun _ => rfl) LL j l hl 3 _ rfl)
          have m4 := hcl (j * 6 + 4) _ (flat_get lkC 6 (fun _ => rfl) LL j l hl 4 _ rfl)
          have m5 := hcl (j * 6 + 5) _ (flat_get lkC 6 (fun _ => rfl) LL j l hl 5 _ rfl)
          simp only [← Nat.add_assoc] at m1 m2 m3 m4 m5
          have HLJ := Lib.hid hl
          have JJ := Lib.hid hjl
          obtain ⟨peer, rule⟩ := l
          simp only at m0 m1 m2 m3 m4 m5 hlf hlp0 hlp1
          have k1 := blk_at wr #[.int .i64 peer, .string rule.pat, .int .i64 rule.dir, .int .i64 rule.qos, .string rule.loc, .string rule.rem] 55 rfl
          have bA := (Below.refl wr.heap.size wr).alloc (Nat.le_refl _) (.cells #[.int .i64 peer, .string rule.pat, .int .i64 rule.dir, .int .i64 rule.qos, .string rule.loc, .string rule.rem] 55)
          obtain ⟨A1, hA1⟩ : ∃ A1, wr.alloc (.cells #[.int .i64 peer, .string rule.pat, .int .i64 rule.dir, .int .i64 rule.qos, .string rule.loc, .string rule.rem] 55) = A1 := ⟨_, rfl⟩
          rw [hA1] at k1 bA
          have hWA := hW2.out.trans (bA.mono hW2.out.size)
          have CT := Lib.hid (toremote_any rule p.tp A1 hlf (by omega) (HT.out.below hWA))
          unfold ruV at CT
          have z0 := k1.cell 0
          have z1 := k1.cell 1
          have z2 := k1.cell 2
          have z3 := k1.cell 3
          have z4 := k1.cell 4
          have z5 := k1.cell 5
          have y1 := (hB13.out.of_below bA).cell 1
          simp only [plA, List.getElem?_toArray, List.getElem?_cons_zero, List.getElem?_cons_succ] at z0 z1 z2 z3 z4 z5 y1
          have HKA := Lib.hid k1
          have HBA := Lib.hid bA
          have HWA := Lib.hid hWA
          clear hcl hl k1 bA hWA hlf hjl
          go_wp2_with fail
          refine CT.out.mono ?_
          rintro e w7 ⟨rfl, b7⟩
          have b67 := HBA.out.trans (b7.mono HBA.out.size)
          have HO7 := Lib.hid (hO2.out.below b67)
          have HS7 := Lib.hid (hS2.out.below b67)
          have HB7 := Lib.hid (hB13.out.of_below b67)
          have HL7 := Lib.hid (hL2.out.below b67)
          have HW7 := Lib.hid (hW2.out.trans (b67.mono hW2.out.size))
          have HK7 := Lib.hid (HKA.out.of_below b7)
          have hts := toRem_size rule p.tp
          obtain ⟨t, ht⟩ : ∃ t, (toRem rule p.tp).1 = t := ⟨_, rfl⟩
          obtain ⟨ok, hok⟩ : ∃ ok, (toRem rule p.tp).2 = ok := ⟨_, rfl⟩
          rw [ht] at hts
          rw [ht, hok]
          have HTT := Lib.hid ht
          have HOK := Lib.hid hok
          have k3 := blk_at w7 #[.int .i64 peer, .string t] 77 rfl
          have b3 := (Below.refl w7.heap.size w7).alloc (Nat.le_refl _) (.cells #[.int .i64 peer, .string t] 77)
          obtain ⟨A3, hA3⟩ : ∃ A3, w7.alloc (.cells #[.int .i64 peer, .string t] 77) = A3 := ⟨_, rfl⟩
          rw [hA3] at k3 b3
          have HO8 := Lib.hid (HO7.out.below b3)
          have HS8 := Lib.hid (HS7.out.below b3)
          have HB8 := Lib.hid (HB7.out.of_below b3)
          have HL8 := Lib.hid (HL7.out.below b3)
          have HW8 := Lib.hid (HW7.out.trans (b3.mono HW7.out.size))
          have HK8 := Lib.hid (HK7.out.of_below b3)
          have s0 := k3.cell 0
          have s1 := k3.cell 1
          have y0 := HK7.out.cell 0
          have y2 := HB8.out.cell 2
          simp only [plA, List.getElem?_toArray, List.getElem?_cons_zero, List.getElem?_cons_succ] at s0 s1 y0 y2
          have hlk := HS8.out.look (b := peer) (t := t) (wf_8 hlp0 hlp1) (by unfold maxLen; omega)
          unfold spotV at hlk
          obtain ⟨mt, hmt⟩ : ∃ mt, metP o2 peer t = mt := ⟨_, rfl⟩
          rw [hmt] at hlk
          have HMT := Lib.hid hmt
          have HK3 := Lib.hid k3
          have hw8 : w.heap.size ≤ A3.heap.size := HW8.out.size
          clear b7 b67 k3 b3 ht hok hmt CT HBA HKA HWA HO7 HS7 HB7 HL7 HW7 hA1 z0 z1 z2 z3 z4 z5 y1 m0 m1 m2 m3 m4 m5
          cases ok
          · go_wp2
            go_roundw
            case rel => exact ⟨j + 1, o2, by go_num, by have := JJ.out; omega, Lib.hid (hIn.out.skip HLJ.out (.inr (.inl HOK.out))), hP2, hLe, hNb, HO8, HS8, HB8, HL8, HW8⟩
            case measure => have := JJ.out; simp [intOf]; omega
          · by_cases hh : p.hp = H
            · have hd : decide (H ≤ p.hp) = true := by simp; omega
              have hd2 : H ≤ p.hp := by omega
              have HHH := Lib.hid hh
              clear hh
              go_wp2
              go_roundw
              case rel => exact ⟨j + 1, o2, by go_num, by have := JJ.out; omega, Lib.hid (hIn.out.skip HLJ.out (.inl HHH.out)), hP2, hLe, hNb, HO8, HS8, HB8, HL8, HW8⟩
              case measure => have := JJ.out; simp [intOf]; omega
            · have hd : decide (H ≤ p.hp) = false := by simp; omega
              have hd2 : p.hp < H := by omega
              have HHH := Lib.hid hh
              clear hh
              cases mt
              · by_cases hfu : 256 ≤ o2.length
                · have hfI : (256 : Int) ≤ (o2.length : Int) := by omega
                  have HFL := Lib.hid (plLoop_stop (f := f') HP0.out HHH.out (by rw [HLL.out]; exact hIn.out.full HLJ.out HHH.out HOK.out (by rw [HTT.out]; exact HMT.out) hfu))
                  clear hfu
                  go_wp2
                  go_ret2
                  exact plcPost_mk (by rw [hX.out, HFL.out]) HO8.out HW8.out hP2.out
                · have hfI : (o2.length : Int) < 256 := by omega
                  obtain ⟨w8, hr8, hs8, hg8⟩ := HS8.out.store ⟨peer, t, p.hp + 1⟩ (wf_8 hlp0 hlp1) (by show t.size ≤ maxLen; unfold maxLen; omega) (by unfold maxLen; omega)
                  have HO9 := Lib.hid (HO8.out.spot hg8 HS8.out)
                  have HB9 := Lib.hid (HB8.out.spot hg8 HS8.out)
                  have HL9 := Lib.hid (HL8.out.spot hg8 HS8.out)
                  have HK9 := Lib.hid (HK8.out.spot hg8 HS8.out)
                  have HW9 := Lib.hid (HW8.out.grown hg8 hw8 (fun k hk => by injection hk with hk; subst hk; exact hsw))
                  have HS9 := Lib.hid hs8
                  simp only [spotV] at hr8
                  have v0 := HK9.out.cell 0
                  have v2 := HB9.out.cell 2
                  simp only [plA, List.getElem?_toArray, List.getElem?_cons_zero, List.getElem?_cons_succ] at v0 v2
                  have bY := (Below.refl w8.heap.size w8).alloc (Nat.le_refl _) (.cells (plA ⟨peer, t, p.hp + 1⟩) 37)
                  have kY := blk_at w8 (plA ⟨peer, t, p.hp + 1⟩) 37 rfl
                  obtain ⟨Y9, hY9⟩ : ∃ Y9, w8.alloc (.cells (plA ⟨peer, t, p.hp + 1⟩) 37) = Y9 := ⟨_, rfl⟩
                  rw [hY9] at bY kY
                  have HOY := Lib.hid (HO9.out.below bY)
                  have HBY := Lib.hid (HB9.out.of_below bY)
                  have HLY := Lib.hid (HL9.out.below bY)
                  have HWY := Lib.hid (HW9.out.trans (bY.mono HW9.out.size))
                  have HSY := Lib.hid (HS9.out.below bY)
                  have HKY := Lib.hid kY
                  have hb13y : b13 < Y9.heap.size := HBY.out.lt
                  simp only [plA] at hY9
                  have hpI : p.hp ≤ 32 := by omega
                  clear bY kY hs8 hg8 HO9 HB9 HL9 HK9 HW9 HS9
                  go_wp2_with (at_builtin; refine wpList_pl (.tmp 102) (.tmp 110) w.heap.size o2.length _ o2 ⟨peer, t, p.hp + 1⟩ w8.heap.size rfl rfl rfl rfl HOY.out HKY.out HWY.out.size (by omega) ?_)
                  intro v9 w9 q1 q2 q3
                  have HO10 := Lib.hid q1
                  have HS10 := Lib.hid (HSY.out.kept q2 (HOY.out.notSpot HSY.out))
                  have HB10 := Lib.hid (HBY.out.grown q2 hNb.out)
                  have HL10 := Lib.hid (HLY.out.grown q2 (fun k hk => HLY.out.ne2 HOY.out (by decide) k hk))
                  have HW10 := Lib.hid (HWY.out.grown q2 HWY.out.size (fun k hk => (HOY.out.lt k hk).1))
                  have HN10 : Hid (v9.ownBlock ≠ some b13) := Lib.hid (by
                    rcases q3 with c | c
                    · rw [c]; exact hNb.out
                    · rw [c]; intro d; injection d with d; omega)
                  have HIN := Lib.hid (hIn.out.add HLJ.out HHH.out HOK.out (by rw [HTT.out]; exact HMT.out) (by omega))
                  rw [HTT.out] at HIN
                  clear q1 q2 q3
                  go_wp2
                  go_roundw
                  case rel =>
                    have hlen : (o2 ++ [(⟨peer, t, p.hp + 1⟩ : Plc)]).length = o2.length + 1 := by simp
                    exact ⟨j + 1, o2 ++ [⟨peer, t, p.hp + 1⟩], by go_num, by have := JJ.out; omega, HIN, Lib.hid (hP2.out.snoc (by omega) (by show 0 ≤ p.hp + 1; omega) (by show p.hp + 1 ≤ H; have := HHH.out; omega) hts hlp0 hlp1), Lib.hid (by rw [hlen]; have := hLe.out; omega), HN10, Lib.hid (by rw [hlen, flat_snoc]; exact (by simpa using HO10.out)), Lib.hid (by rw [hlen]; exact HS10.out), HB10, HL10, HW10⟩
                  case measure => have := JJ.out; simp [intOf]; omega
              · go_wp2
                go_roundw
                case rel => exact ⟨j + 1, o2, by go_num, by have := JJ.out; omega, Lib.hid (hIn.out.skip HLJ.out (.inr (.inr (by rw [HTT.out]; exact HMT.out)))), hP2, hLe, hNb, HO8, HS8, HB8, HL8, HW8⟩
                case measure => have := JJ.out; simp [intOf]; omega
        · obtain rfl : j = LL.length := by omega
          have hnl : ¬ ((LL.length : Int) < (LL.length : Int)) := by omega
          have HPN := Lib.hid (plLoop_in (K := K) (f := f') HP0.out (by rw [HLL.out]; exact hIn.out))
          go_wp2
          go_roundw
          case rel => exact ⟨i + 1, f', o2, by go_num, by have := HIO.out; omega, by omega, Lib.hid (by have := HIO.out; have := hLe.out; omega), Lib.hid (by rw [hX.out, HPN.out]), hP2, hO2, hS2, hW2⟩
          case measure => have := HIO.out; simp [intOf]; omega
    · have HPE := Lib.hid (plLoop_end (K := K) (H := H) (f := f) (i := i) (out := out) (by omega))
      have hnl : ¬ ((i : Int) < (out.length : Int)) := by omega
      go_wp2
      go_ret2
      exact plcPost_mk (by rw [hX.out, HPE.out]) hO.out hW.out hP.out
end Go.Proofs.YtenoaonlngndpaaDoor

/- chase.Wants. -/
namespace Go.Proofs.YtenoaonlngndpaaDoor
set_option linter.unusedVariables false
set_option linter.unusedSimpArgs false
open Go.RowKit Go.Maps Pl Go.Shelf

theorem wants11_any (b : Nat) (f t : ByteArray) (w : World) (hc : w.cell? ⟨b, 1, none⟩ = some (.string t)) (hf : f.size ≤ 281474976710656) (ht : t.size ≤ 281474976710656) (hT : Tabs w) :
    Calls Tryd.prog 28 #[.string f, .pointer (some ⟨b, 0, none⟩)] w fun e w' => e = .returned (.bool (mtB f t)) ∧ Below w.heap.size w w' := by
  have C := Lib.hid (match_any f t w hf ht hT)
  obtain ⟨y, hy⟩ : ∃ y, mtB f t = y := ⟨_, rfl⟩
  rw [hy] at C ⊢
  clear hT hy
  go_enter Tryd.func28, Tryd.ntmps28
  go_wp2_with (first | (go_at_call 15; (with_reducible refine C.out.mono ?_); rintro e w1 ⟨rfl, b1⟩) | (fail))
  go_ret
  exact ⟨rfl, b1⟩
theorem want_get (K : Kb) (p : Plc) : wantAt K p = (!(K p.br).isSome || ((K p.br).getD zAd).fs.any fun f => mtB f p.tp) := by
  unfold wantAt
  cases K p.br <;> rfl
set_option maxHeartbeats 2000000 in
set_option maxRecDepth 100000 in
theorem wants1_any (B bp mb n bb : Nat) (K : Kb) (p : Plc) (w : World) (hK : KbAt B bp mb n K w) (hc : w.cell? ⟨bb, 0, none⟩ = some (.pointer (some ⟨bp, 0, none⟩))) (hbb : bb < w.heap.size) (h0 : 0 ≤ p.br) (h1 : p.br < 8) (ht : p.tp.size ≤ 256) (hT : Tabs w) :
    Calls Tryd.prog 26 #[.agg #[.int .i64 p.br, .string p.tp, .int .i64 p.hp], .pointer (some ⟨bb, 0, none⟩)] w fun e w' => e = .returned (.bool (wantAt K p)) ∧ Below w.heap.size w w' := by
  rw [want_get]
  have hY := (Below.refl w.heap.size w).alloc (Nat.le_refl _) (.cells #[.int .i64 p.br, .string p.tp, .int .i64 p.hp] 37)
  have hk := blk_at w #[.int .i64 p.br, .string p.tp, .int .i64 p.hp] 37 rfl
  obtain ⟨Y, hYe⟩ : ∃ Y, w.alloc (.cells #[.int .i64 p.br, .string p.tp, .int .i64 p.hp] 37) = Y := ⟨_, rfl⟩
  rw [hYe] at hY hk
  have HE := Lib.hid hYe
  have CO := Lib.hid (kbof_any B bp mb n K p.br Y (hK.below hY) (wf_8 h0 h1))
  have hfits := hK.ok.fits p.br
  have k0 := hk.cell 0
  have c0 : Y.cell? ⟨bb, 0, none⟩ = some (.pointer (some ⟨bp, 0, none⟩)) := (hY.cell (p := ⟨bb, 0, none⟩) hbb).trans hc
  simp only [List.getElem?_toArray, List.getElem?_cons_zero] at k0
  have HY := Lib.hid hY
  have HKB := Lib.hid hk
  have HTY := Lib.hid (hT.below hY)
  have hwY : w.heap.size < Y.heap.size := hk.lt
  have HFT := Lib.hid hfits
  clear hY hk hYe hK hc hT hbb hfits
  go_enter Tryd.func26, Tryd.ntmps26
  go_wp2_with (first | (rw [HE.out]) | (fail))
  refine CO.out.mono ?_
  rintro e w2 ⟨vf, vl, rfl, had, b2⟩
  obtain ⟨a, ha⟩ : ∃ a, (K p.br).getD zAd = a := ⟨_, rfl⟩
  obtain ⟨bk, hbk⟩ : ∃ bk, (K p.br).isSome = bk := ⟨_, rfl⟩
  have hft := HFT.out
  rw [ha] at had hft ⊢
  rw [hbk]
  obtain ⟨af, kf, rfl, q1, q2, -⟩ := had.fs.form
  obtain ⟨al, kl, rfl, -, -, -⟩ := had.ls.form
  have b3 := (Below.refl w2.heap.size w2).alloc (Nat.le_refl _) (.cells #[.int .i64 a.owner, .int .i64 a.version, .slice af a.fs.length kf, .slice al a.ls.length kl] 47)
  have k3 := blk_at w2 #[.int .i64 a.owner, .int .i64 a.version, .slice af a.fs.length kf, .slice al a.ls.length kl] 47 rfl
  obtain ⟨X, hX⟩ : ∃ X, w2.alloc (.cells #[.int .i64 a.owner, .int .i64 a.version, .slice af a.fs.length kf, .slice al a.ls.length kl] 47) = X := ⟨_, rfl⟩
  rw [hX] at b3 k3
  have b23 := b2.trans (b3.mono b2.size)
  have x2 := k3.cell 2
  simp only [List.getElem?_toArray, List.getElem?_cons_zero, List.getElem?_cons_succ] at x2
  have HB := Lib.hid (HY.out.trans (b23.mono HY.out.size))
  have HP := Lib.hid ((HKB.out.of_below b23).cell 1)
  have hwX : w.heap.size < X.heap.size := Nat.lt_of_lt_of_le hwY b23.size
  have HTX := Lib.hid (HTY.out.below b23)
  have CF := Lib.hid (con_str 28 #[] #[.pointer (some ⟨w.heap.size, 0, none⟩)] (fun f => mtB f p.tp) Y.heap.size _ a.fs X hft.nf (had.fs.below b3) (enters_of Tryd.func28 (by kernel_rfl) rfl) (fun f hf W hW => wants11_any w.heap.size f p.tp W ((hW.cell (p := ⟨w.heap.size, 1, none⟩) hwX).trans HP.out) (by have := hft.fs f hf; omega) (by omega) (HTX.out.below hW)))
  obtain ⟨y, hy⟩ : ∃ y, (a.fs.any fun f => mtB f p.tp) = y := ⟨_, rfl⟩
  rw [hy] at CF
  unfold adA
  have HA := Lib.hid ha
  have HBK := Lib.hid hbk
  have HYY := Lib.hid hy
  clear had hft b2 b3 k3 b23 CO k0 c0 hy ha hbk
  cases bk
  · go_wp2
    go_ret
    exact ⟨ret_bool (by rw [HBK.out]; rfl), HB.out⟩
  · go_wp2_with (first | (go_at_call 27; (with_reducible refine CF.out.mono ?_); rintro e w4 ⟨rfl, b4⟩; have HB4 := Lib.hid (HB.out.trans (b4.mono HB.out.size)); clear b4) | (fail))
    go_ret
    exact ⟨ret_bool (by rw [HBK.out, HA.out, HYY.out]; cases y <;> rfl), HB4.out⟩
set_option maxHeartbeats 2000000 in
set_option maxRecDepth 100000 in
theorem wants_any (B bp mb n : Nat) (K : Kb) (at' h : Int) (name : ByteArray) (w : World) (hK : KbAt B bp mb n K w) (ha0 : -9223372036854775808 ≤ at') (ha1 : at' ≤ 9223372036854775807) (hh0 : -9223372036854775808 ≤ h) (hh1 : h ≤ 9223372036854775807) (hn : name.size ≤ 281474976710656) (hT : Tabs w) :
    Calls Tryd.prog 11 #[.pointer (some ⟨bp, 0, none⟩), .int .i64 at', .string name, .int .i64 h] w fun e w' => e = .returned (.bool (wants K at' name h)) ∧ Below w.heap.size w w' := by
  unfold wants
  have hY := (Below.refl w.heap.size w).alloc (Nat.le_refl _) (.cells #[.pointer (some ⟨bp, 0, none⟩)] 24)
  have hk := blk_at w #[.pointer (some ⟨bp, 0, none⟩)] 24 rfl
  obtain ⟨Y, hYe⟩ : ∃ Y, w.alloc (.cells #[.pointer (some ⟨bp, 0, none⟩)] 24) = Y := ⟨_, rfl⟩
  rw [hYe] at hY hk
  have HE := Lib.hid hYe
  have HKY := Lib.hid (hK.below hY)
  have HTY := Lib.hid (hT.below hY)
  have CP := Lib.hid (places_any B bp mb n K at' h name Y HKY.out ha0 ha1 hh0 hh1 hn HTY.out)
  have k0 := hk.cell 0
  simp only [List.getElem?_toArray, List.getElem?_cons_zero] at k0
  have HK0 := Lib.hid k0
  have hwY : w.heap.size < Y.heap.size := hk.lt
  have HY := Lib.hid hY
  obtain ⟨R, hR⟩ : ∃ R, places K at' name h = R := ⟨_, rfl⟩
  rw [hR] at CP ⊢
  obtain ⟨out, all⟩ := R
  simp only
  clear hY hk hYe hK hT hR
  go_enter Tryd.func11, Tryd.ntmps11
  go_wp2_with (first | (rw [HE.out]) | (fail))
  refine CP.out.mono ?_
  rintro e w2 ⟨v, H, rfl, ho, b2, hP⟩
  simp only at ho hP
  obtain ⟨ao, kc, rfl, q1, q2, -⟩ := ho.form
  have CF := Lib.hid (con_pl 26 #[] #[.pointer (some ⟨w.heap.size, 0, none⟩)] (wantAt K) Y.heap.size _ out w2 (by have := hP.1; omega) ho (enters_of Tryd.func26 (by kernel_rfl) rfl) (fun p hp W hW => wants1_any B bp mb n w.heap.size K p W ((HKY.out.below b2).below hW) ((hW.cell (p := ⟨w.heap.size, 0, none⟩) (Nat.lt_of_lt_of_le hwY b2.size)).trans ((b2.cell (p := ⟨w.heap.size, 0, none⟩) hwY).trans HK0.out)) (Nat.lt_of_lt_of_le hwY (Nat.le_trans b2.size hW.size)) (hP.2 p hp).2.2.2.1 (hP.2 p hp).2.2.2.2 (hP.2 p hp).2.2.1 ((HTY.out.below b2).below hW)))
  obtain ⟨y, hy⟩ : ∃ y, out.any (wantAt K) = y := ⟨_, rfl⟩
  rw [hy] at CF
  have HYY := Lib.hid hy
  have HB := Lib.hid (HY.out.trans (b2.mono HY.out.size))
  clear ho b2 hP hy CP k0
  cases all
  · go_wp2
    go_ret
    exact ⟨rfl, HB.out⟩
  · go_wp2_with (first | (go_at_call 25; (with_reducible refine CF.out.mono ?_); rintro e w4 ⟨rfl, b4⟩; have HB4 := Lib.hid (HB.out.trans (b4.mono HB.out.size)); clear b4) | (fail))
    go_ret
    exact ⟨ret_bool (by rw [HYY.out]; cases y <;> rfl), HB4.out⟩
end Go.Proofs.YtenoaonlngndpaaDoor

/- aqueductlaw22's rule. -/
namespace Go.Proofs.YtenoaonlngndpaaDoor
set_option linter.unusedVariables false
set_option linter.unusedSimpArgs false
open Go.RowKit Go.Maps Pl Go.Shelf
theorem results_two_rows {P : Program} {fn : Func} {t1 t2 : Nat} {ty1 ty2 : TypeId} (h : fn.results = #[.cell t1 ty1, .cell t2 ty2]) (tmps : Array Value) (w : World) (g1 g2 : Nat) (s1 s2 : TypeId) (c1 c2 : Array Value) (d1 d2 : TypeDesc)
    (p1 : tmps.getD t1 undef = .pointer (some ⟨g1, 0, none⟩)) (p2 : tmps.getD t2 undef = .pointer (some ⟨g2, 0, none⟩)) (k1 : Blk w g1 c1 s1) (k2 : Blk w g2 c2 s2)
    (u1 : P.underlying ty1 = some d1) (q1 : (match d1 with | .struct _ | .array _ _ => true | _ => false) = true) (i1 : (P.info? ty1).map (·.size) = some c1.size)
    (u2 : P.underlying ty2 = some d2) (q2 : (match d2 with | .struct _ | .array _ _ => true | _ => false) = true) (i2 : (P.info? ty2).map (·.size) = some c2.size) :
    (results fn tmps).run P w = .ok (.tuple #[.agg c1, .agg c2]) w := by
  have hp1 : tmps[t1]?.getD undef = .pointer (some ⟨g1, 0, none⟩) := by simpa using p1
  have hp2 : tmps[t2]?.getD undef = .pointer (some ⟨g2, 0, none⟩) := by simpa using p2
  simp [results, h, hp1, hp2, asAddr, run_loadVar_row w g1 s1 ty1 c1 (0, 0) d1 k1 u1 q1 i1, run_loadVar_row w g2 s2 ty2 c2 (0, 0) d2 k2 u2 q2 i2]
theorem ru_size : (Tryd.prog.info? 53).map (·.size) = some 5 := by kernel_rfl
theorem rr_size : (Tryd.prog.info? 84).map (·.size) = some 5 := by kernel_rfl
theorem ru_one (r : Rl) : (ruC r).all (·.oneCell') = true := by simp [ruC]; simp [Value.oneCell']
set_option maxHeartbeats 2000000 in
set_option maxRecDepth 100000 in
theorem rule_any (r : Rl) (w : World) :
    Calls Tryd.prog 38 #[.agg (ruC r)] w fun e w' => e = .returned (.tuple #[.agg (ruC r), .agg (ruC r)]) ∧ Below w.heap.size w w' := by
  unfold ruC
  go_enter Tryd.func38, Tryd.ntmps38
  go_wp2_with fail
  go_region
  go_wp2
  have k0 := (Below.refl w.heap.size w).alloc (Nat.le_refl _) (.cells (ruC r) 99)
  have k1 := k0.alloc k0.size (.cells (ruC r) 53)
  have k2 := k1.alloc k1.size (.cells (ruC r) 84)
  have b1 := (blk_at (w.alloc (.cells (ruC r) 99)) (ruC r) 53 (b := w.heap.size + 1) (by simp)).alloc (.cells (ruC r) 84)
  have b2 := blk_at ((w.alloc (.cells (ruC r) 99)).alloc (.cells (ruC r) 53)) (ruC r) 84 (b := w.heap.size + 1 + 1) (by simp)
  exact bodyPost_ret (v := .tuple #[.agg (ruC r), .agg (ruC r)]) (results_two_rows (P := Tryd.prog) (t1 := 2) (t2 := 3) (ty1 := 53) (ty2 := 84) (by kernel_rfl) _ _ (w.heap.size + 1) (w.heap.size + 1 + 1) 53 84 _ _ _ _ rfl rfl b1 b2 Tryd.underlying53 rfl ru_size Tryd.underlying84 rfl rr_size) rfl ⟨rfl, k2.drew⟩
end Go.Proofs.YtenoaonlngndpaaDoor

/- What the form's reading says of an argument: slices of strings. -/
namespace Go.Proofs.YtenoaonlngndpaaDoor
open Go.ChangeShapes Go.WideShapes Go.RowKit Go.Deep
set_option linter.unusedVariables false

/-- A slice of strings reads as a list. -/
def Strs (w : World) (v : Value) (ss : List ByteArray) : Prop :=
  ∃ A cap, v = .slice A ss.length cap ∧ ss.length ≤ cap ∧ cap ≤ maxLen ∧
    (0 < ss.length → ∃ b o, A = some ⟨b, o, none⟩ ∧ b < w.heap.size ∧ ∀ i x, ss[i]? = some x → w.cell? ⟨b, o + i, none⟩ = some (.string x))
theorem Strs.below {w w' : World} {v : Value} {ss : List ByteArray} (h : Strs w v ss) (hb : Below w.heap.size w w') : Strs w' v ss := by
  obtain ⟨A, cap, rfl, h1, h2, h3⟩ := h
  refine ⟨A, cap, rfl, h1, h2, fun hp => ?_⟩
  obtain ⟨b, o, rfl, hl, hc⟩ := h3 hp
  exact ⟨b, o, rfl, Nat.lt_of_lt_of_le hl hb.size, fun i x hx => (hb.cell (p := ⟨b, o + i, none⟩) hl).trans (hc i x hx)⟩
/-- Its bulk. -/
def bulkS (ss : List ByteArray) : Nat := (ss.map fun x => x.size + 1).sum
theorem bulkS_cons (x : ByteArray) (r : List ByteArray) : bulkS (x :: r) = x.size + 1 + bulkS r := by simp [bulkS]
theorem bulk_len : ∀ ss : List ByteArray, ss.length ≤ bulkS ss
  | [] => Nat.zero_le _
  | x :: r => by
    have := bulk_len r
    rw [bulkS_cons, List.length_cons]; omega
theorem bulk_mem {x : ByteArray} : ∀ {ss : List ByteArray}, x ∈ ss → x.size + 1 ≤ bulkS ss
  | y :: r, h => by
    rw [bulkS_cons]
    rcases List.mem_cons.1 h with rfl | h
    · omega
    · have := bulk_mem h; omega
theorem bulkAll_append {H : Type} : ∀ a b : List (DataW H), Rows.uptoBulkAll (a ++ b) = Rows.uptoBulkAll a + Rows.uptoBulkAll b
  | [], b => by simp [Rows.uptoBulkAll]
  | x :: r, b => by simp only [List.cons_append, Rows.uptoBulkAll, bulkAll_append r b]; omega
theorem bulk_strs {H : Type} : ∀ ss : List ByteArray, Rows.uptoBulkAll (ss.map fun x => (.lit (.string x.data.toList) : DataW H)) = bulkS ss
  | [] => rfl
  | x :: r => by
    rw [List.map_cons, Rows.uptoBulkAll, bulk_strs r, bulkS_cons, Rows.uptoBulk]
    rfl
section
variable {H : Type} {enc : TypeId × Value → H} {w : World}
theorem spot_of_cell {a : Addr} {v : Value} (h : w.cell? a = some v) : a.spot = none ∧ a.block < w.heap.size := by
  refine ⟨?_, ?_⟩
  · unfold World.cell? at h
    split at h
    · split at h
      · cases h
      · rename_i hs; simpa using hs
    · cases h
  · unfold World.cell? at h
    split at h
    · rename_i hg
      exact (Array.getElem?_eq_some_iff.1 hg).1
    · cases h
set_option maxRecDepth 100000 in
theorem open_strs_arg {t e : TypeId} {v : Value} {d : DataW H} {p : List MemPlace} {r : Reach} {b0 : Nat} (ht : Tryd.prog.underlying t = some (.slice e)) (he : Tryd.prog.underlying e = some .string) (hc : Tryd.prog.cellsOf e = 1)
    (hv : Value.okWide Tryd.prog w r b0 t v) (h : DataW.Trod enc Tryd.prog w 0 (fun _ => true) true t v d p) : ∃ ss, Strs w v ss ∧ bulkS ss ≤ Rows.uptoBulk d := by
  obtain ⟨fuel, hf⟩ := h
  obtain ⟨a0, l0, c0, rfl⟩ := okWide_slice ht hv
  rcases open_strs ht he hc hf with ⟨hcs, hx⟩ | ⟨a, len, cap, m, Sx, hcs, _, hl, hm, hmm, hx, hcell⟩
  · simp [Value.cells] at hcs
    obtain ⟨rfl, rfl, rfl⟩ := hcs
    exact ⟨[], ⟨none, 0, rfl, Nat.le_refl _, Nat.zero_le _, fun h => absurd h (by simp)⟩, Nat.zero_le _⟩
  · simp [Value.cells] at hcs
    obtain ⟨rfl, rfl, rfl⟩ := hcs
    simp only [Prod.mk.injEq] at hx
    have hlen : ((List.range l0).map Sx).length = l0 := by simp
    have hlm : l0 ≤ m := by rw [hmm]; split <;> omega
    refine ⟨(List.range l0).map Sx, ⟨some a, c0, by rw [hlen], by rw [hlen]; exact hl, hm, fun hp => ?_⟩, ?_⟩
    · rw [hlen] at hp
      have h0 := (hcell 0 (by omega)).1
      have hs := spot_of_cell h0
      have e0 : a.add 0 = a := by unfold Addr.add; rw [if_pos rfl]
      rw [e0] at hs
      obtain ⟨b, o, sp⟩ := a
      obtain ⟨rfl, hb⟩ := hs
      refine ⟨b, o, rfl, hb, fun i x hx => ?_⟩
      have hi : i < l0 := by have := (List.getElem?_eq_some_iff.1 hx).1; rw [hlen] at this; exact this
      have h1 := (hcell i (by omega)).1
      rw [Go.WideShapes.add_plain] at h1
      rw [h1]
      rw [List.getElem?_map, List.getElem?_range hi] at hx
      simpa using hx
    · have e : ((List.range l0).map fun i => (.lit (.string (Sx i).data.toList) : DataW H)) = ((List.range l0).map Sx).map fun x => (.lit (.string x.data.toList) : DataW H) := by rw [List.map_map]; rfl
      rw [hx.1, Rows.uptoBulk, e, bulk_strs]
      omega
end
end Go.Proofs.YtenoaonlngndpaaDoor
