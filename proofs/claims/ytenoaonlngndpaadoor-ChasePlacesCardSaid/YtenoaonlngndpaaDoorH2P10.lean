/- Parts of the proof, joined: Bsw, Wk, Dpl, Dpm, Dwn, Spq. -/
import Derived.Test.YtenoaonlngndpaaDoorH2P9
import Derived.Test.YtenoaonlngndpaaDoorH2P6
import Derived.Test.YtenoaonlngndpaaDoorH2P8
import Derived.Deep.DeepCutAuto
import Derived.Deep.RegionHeld3
import Derived.StillTailTactics
import Derived.IntWalk
/- aqueductlaw22's base: the walk. -/
namespace Go.Proofs.YtenoaonlngndpaaDoor
set_option linter.unusedVariables false
set_option linter.unusedSimpArgs false
open Go.RowKit Go.Maps Pl Go.Shelf

theorem KMap.no_row {mb n m size B : Nat} {z : Value} {M : Int → Option Value} {w : World} {e : TypeId} {v : Value} {xs : List Value} (h : KMap mb z M n w) (hs : Sl B w e size v m xs) : v.ownBlock ≠ some mb := by
  intro c
  obtain ⟨es, ck, ho⟩ := h.obj
  obtain ⟨cur, e1⟩ := hs.obj _ _ c ho
  cases e1
theorem Sl.frM {mb n m size B B' : Nat} {z : Value} {M : Int → Option Value} {w w' : World} {e : TypeId} {v : Value} {xs : List Value} (hs : Sl B w e size v m xs) (hk : KMap mb z M n w) (hm : Fr B' (mapS mb) w w') : Sl B w' e size v m xs :=
  hs.fr hm (fun k cs hv c => hk.no_row hs (by rw [hv]; unfold mapS at c; rw [c]))
theorem Blk.frM {mb n B' : Nat} {z : Value} {M : Int → Option Value} {w w' : World} {b : Nat} {cs : Array Value} {T : TypeId} (hb : Blk w b cs T) (hk : KMap mb z M n w) (hm : Fr B' (mapS mb) w w') : Blk w' b cs T :=
  hm.keep b _ hb (fun c => hk.ne hb (by unfold mapS at c; exact c.symm))
theorem AdAt.frM {mb n B B' : Nat} {z : Value} {M : Int → Option Value} {w w' : World} {T : TypeId} {a : Ad} {vf vl : Value} (h : AdAt B w T a vf vl) (hk : KMap mb z M n w) (hm : Fr B' (mapS mb) w w') : AdAt B w' T a vf vl := ⟨h.fs.frM hk hm, h.ls.frM hk hm⟩
/-- The program's Learn leaves the document's base. -/
theorem DbAt.frM {B B' bp mb n : Nat} {z : Value} {M : Int → Option Value} {E : List Ent} {w w' : World} (h : DbAt B bp E w) (hk : KMap mb z M n w) (hm : Fr B' (mapS mb) w w') : DbAt B bp E w' := by
  obtain ⟨v, h1, h2⟩ := h.ex
  exact ⟨h.hb, ⟨v, h1.frM hk hm, h2.frM hk hm⟩, fun e he => (h.ads e he).frM hk hm, h.ok⟩
/-- The document's Learn leaves the program's base. -/
theorem KbAt.frB {B B' bp mb n dp : Nat} {K : Kb} {w w' : World} {cs : Array Value} (h : KbAt B bp mb n K w) (hb : Blk w dp cs 63) (hm : Fr B' (mapS dp) w w') : KbAt B bp mb n K w' := by
  obtain ⟨M, h1, h2⟩ := h.map
  have ad : ∀ {a : Ad} {vf vl : Value}, AdAt B w 55 a vf vl → AdAt B w' 55 a vf vl := fun had =>
    ⟨had.fs.fr hm (fun k cs hv c => had.fs.ne hb (by decide) (by rw [hv]; unfold mapS at c; rw [c])), had.ls.fr hm (fun k cs hv c => had.ls.ne hb (by decide) (by rw [hv]; unfold mapS at c; rw [c]))⟩
  refine ⟨h.hb, h.hm, hm.keep bp _ h.blk (fun c => made_apart h.blk hb (by decide) (by unfold mapS at c; exact c)), h.ok, M, ?_, fun x => ?_⟩
  · refine h1.same ?_
    obtain ⟨es, ck, ho⟩ := h1.obj
    exact (hm.keep mb _ ho (fun c => h1.ne hb (by unfold mapS at c; exact c))).trans ho.symm
  · have h3 := h2 x
    cases hK : K x with
    | none => rw [hK] at h3; exact h3
    | some a =>
      rw [hK] at h3
      obtain ⟨vf, vl, h4, h5⟩ := h3
      exact ⟨vf, vl, h4, ad h5⟩
/-- An advert that a machine holds. -/
def AvFits (a : Ad) : Prop := (∀ f ∈ a.fs, f.size ≤ 140737488351232) ∧ ∀ l ∈ a.ls, l.rule.fits
theorem AvFits.made {a : Ad} (h : AvFits a) : (madeA a).fits := by
  unfold madeA
  exact ⟨fun f hf => h.1 f (List.mem_of_mem_take hf), fun l hl => h.2 l (List.mem_of_mem_take hl), by simp only [List.length_take]; omega, by simp only [List.length_take]; omega⟩
/-- Adverts as an argument. -/
def AvRow (w : World) (v : Value) (l : List Ad) : Prop :=
  ∃ A cap, v = .slice A l.length cap ∧ l.length ≤ cap ∧ cap ≤ maxLen ∧ (0 < l.length → ∃ b o, A = some ⟨b, o, none⟩ ∧ b < w.heap.size ∧
    ∀ i a, l[i]? = some a → ∃ vf vl, w.cell? ⟨b, o + i * 4, none⟩ = some (.int .i64 a.owner) ∧ w.cell? ⟨b, o + i * 4 + 1, none⟩ = some (.int .i64 a.version) ∧ w.cell? ⟨b, o + i * 4 + 2, none⟩ = some vf ∧ w.cell? ⟨b, o + i * 4 + 3, none⟩ = some vl ∧ Strs w vf a.fs ∧ LkRow w vl a.ls)
theorem strs_take {w : World} {A : Option Addr} {cap : Nat} {fs : List ByteArray} (h : Strs w (.slice A fs.length cap) fs) (n m : Nat) (hm : min fs.length n = m) : Strs w (.slice A m cap) (fs.take n) := by
  obtain ⟨A', c', e, h1, h2, h3⟩ := h
  injection e with e1 e2 e3
  subst e1
  subst e3
  have hl : (fs.take n).length = m := by rw [List.length_take, Nat.min_comm]; exact hm
  have hmf : m ≤ fs.length := by rw [← hm]; exact Nat.min_le_left _ _
  refine ⟨A, cap, by rw [hl], by rw [hl]; exact Nat.le_trans hmf h1, h2, fun hp => ?_⟩
  obtain ⟨b, o, e, hb, hc⟩ := h3 (Nat.lt_of_lt_of_le (by rw [hl] at hp; exact hp) hmf)
  exact ⟨b, o, e, hb, fun i x hi => hc i x (by rw [List.getElem?_take] at hi; split at hi; exact hi; cases hi)⟩
/-- What is known behind some adverts. -/
def kbUp (l : List Ad) : Kb := l.foldl (fun K x => learn K (madeA x)) fun _ => none
theorem kbUp_step {l : List Ad} {k : Nat} {x : Ad} (h : l[k]? = some x) : kbUp (l.take (k + 1)) = learn (kbUp (l.take k)) (madeA x) := by
  unfold kbUp
  rw [List.take_add_one, h]
  simp only [Option.toList_some, List.foldl_append, List.foldl_cons, List.foldl_nil]
/-- What base comes to. -/
def BasePost (l : List Ad) (w : World) (e : Ending) (w' : World) : Prop := ∃ (bp mb n dp : Nat) (E : List Ent), e = .returned (.tuple #[.pointer (some ⟨bp, 0, none⟩), .pointer (some ⟨dp, 0, none⟩)]) ∧ KbAt w.heap.size bp mb n (baseK l) w' ∧ n ≤ 12 ∧ DbAt w.heap.size dp E w' ∧ Rep (baseK l) E ∧ E.length ≤ 12 ∧ Below w.heap.size w w'
theorem basePost_mk {l : List Ad} {w w' : World} {bp mb n dp : Nat} {E : List Ent} {K : Kb} (h : baseK l = K) (h1 : KbAt w.heap.size bp mb n K w') (h2 : n ≤ 12) (h3 : DbAt w.heap.size dp E w') (h4 : Rep K E) (h5 : E.length ≤ 12) (h6 : Below w.heap.size w w') : BasePost l w (.returned (.tuple #[.pointer (some ⟨bp, 0, none⟩), .pointer (some ⟨dp, 0, none⟩)])) w' := by
  subst h
  exact ⟨bp, mb, n, dp, E, rfl, h1, h2, h3, h4, h5, h6⟩
theorem lav_size : (Tryd.prog.info? 66).map (·.size) = some 4 := by kernel_rfl
end Go.Proofs.YtenoaonlngndpaaDoor
namespace Go.Proofs.YtenoaonlngndpaaDoor
set_option linter.unusedVariables false
set_option linter.unusedSimpArgs false
open Go.RowKit Go.Maps Pl Go.Shelf
set_option maxHeartbeats 8000000 in
set_option maxRecDepth 100000 in
theorem base_any (l : List Ad) (v : Value) (w : World) (h : AvRow w v l) (hfit : ∀ a ∈ l, AvFits a) (hT : Tabs w) :
    Calls Tryd.prog 7 #[v] w (BasePost l w) := by
  obtain ⟨A, cap, rfl, q1, q2, hl⟩ := h
  unfold maxLen at q2
  obtain ⟨N, hN⟩ : ∃ N : Nat, min l.length 12 = N := ⟨_, rfl⟩
  have hNI : min (l.length : Int) 12 = (N : Int) := by omega
  have hNL : N ≤ l.length := by omega
  have hNc : (N : Int) ≤ (cap : Int) := by omega
  have hN12 : N ≤ 12 := by omega
  have HL := Lib.hid hl
  have HX := Lib.hid (show baseK l = kbUp (l.take N) by
    unfold baseK kbUp
    rw [← hN]
    by_cases c : l.length ≤ 12
    · rw [Nat.min_eq_left c, List.take_length, List.take_of_length_le c]
    · rw [Nat.min_eq_right (by omega)])
  have HT := Lib.hid hT
  have HFT := Lib.hid hfit
  clear hl hN hT hfit
  go_enter Tryd.func7, Tryd.ntmps7
  go_wp2_with fail
  refine (kbnew_any w).mono ?_
  rintro e w1 ⟨rfl, hk1, hb1⟩
  have kY := blk_at w1 #[.slice none 0 0] 63 rfl
  have bY := hb1.alloc hb1.size (.cells #[.slice none 0 0] 63)
  have hkY := hk1.below ((Below.refl w1.heap.size w1).alloc (Nat.le_refl _) (.cells #[.slice none 0 0] 63))
  obtain ⟨Y, hY⟩ : ∃ Y, w1.alloc (.cells #[.slice none 0 0] 63) = Y := ⟨_, rfl⟩
  rw [hY] at kY bY hkY
  have hw1 : w.heap.size ≤ w1.heap.size := hb1.size
  have HD0 := Lib.hid (show DbAt w.heap.size w1.heap.size [] Y from ⟨hw1, ⟨_, kY, Sl.nil _ _ _ _⟩, fun e he => (by cases he), fun e he => (by cases he)⟩)
  have HK0 := Lib.hid hkY
  have HB0 := Lib.hid bY
  clear kY bY hkY hk1 hb1
  go_wp2
  clear hY
  obtain ⟨dp, hdp⟩ : ∃ dp, w1.heap.size = dp := ⟨_, rfl⟩
  rw [hdp] at HD0 ⊢
  clear hdp hw1
  go_loopw [19] (fun i wr => ∃ (k : Nat) (E : List Ent), i = .int .i64 k ∧ k ≤ N ∧ Hid (KbAt w.heap.size (w.heap.size + 1) w.heap.size k (kbUp (l.take k)) wr) ∧ Hid (DbAt w.heap.size dp E wr) ∧ Hid (Rep (kbUp (l.take k)) E) ∧ Hid (E.length ≤ k) ∧ Hid (Below w.heap.size w wr)) (fun i _ => N - (intOf i).toNat)
  case atStart => exact ⟨0, [], rfl, Nat.zero_le _, HK0, HD0, Lib.hid (fun x => rfl), Lib.hid (Nat.le_refl _), HB0⟩
  case round =>
    obtain ⟨k, E, rfl, hk, hK, hD, hR, hEl, hW⟩ := hrel
    by_cases hlt : k < N
    · have hkM : (k : Int) < (N : Int) := by omega
      obtain ⟨x, hx⟩ : ∃ x, l[k]? = some x := ⟨_, List.getElem?_eq_getElem (by omega)⟩
      obtain ⟨b, o, rfl, hbl, hcl⟩ := HL.out (by omega)
      obtain ⟨vf, vl, c0, c1, c2, c3, hsf, hsl⟩ := hcl k x hx
      have up := fun i => hW.out.cell (p := ⟨b, i, none⟩) hbl
      have c0 := (up _).trans c0
      have c1 := (up _).trans c1
      have c2 := (up _).trans c2
      have c3 := (up _).trans c3
      have hsf := hsf.below hW.out
      have hsl := hsl.below hW.out
      have hxf := HFT.out x (List.mem_of_getElem? hx)
      have HXK := Lib.hid (kbUp_step hx)
      obtain ⟨owner, version, fs, ls⟩ := x
      simp only at c0 c1 c2 c3 hsf hsl
      have hsf0 := hsf
      obtain ⟨Af, cf, rfl, qf1, qf2, -⟩ := hsf0
      have hsl0 := hsl
      obtain ⟨Al, cl, rfl, ql1, ql2, -⟩ := hsl0
      unfold maxLen at qf2 ql2
      obtain ⟨M, hM⟩ : ∃ M : Nat, min fs.length 8 = M := ⟨_, rfl⟩
      have hMI : min (fs.length : Int) 8 = (M : Int) := by omega
      have hMc : (M : Int) ≤ (cf : Int) := by omega
      have hst := strs_take hsf 8 M hM
      have bA := (Below.refl wr.heap.size wr).alloc (Nat.le_refl _) (.cells #[.int .i64 owner, .int .i64 version, .slice Af fs.length cf, .slice Al ls.length cl] 66)
      have kA := blk_at wr #[.int .i64 owner, .int .i64 version, .slice Af fs.length cf, .slice Al ls.length cl] 66 rfl
      obtain ⟨A1, hA1⟩ : ∃ A, wr.alloc (.cells #[.int .i64 owner, .int .i64 version, .slice Af fs.length cf, .slice Al ls.length cl] 66) = A := ⟨_, rfl⟩
      rw [hA1] at bA kA
      have a2 := kA.cell 2
      simp only [List.getElem?_toArray, List.getElem?_cons_zero, List.getElem?_cons_succ] at a2
      have fz2 := kA.frozen 2
      have kB := kA.set 2 (.slice Af M cf)
      have bB : Below wr.heap.size wr (A1.setCell ⟨wr.heap.size, 2, none⟩ (.slice Af M cf)) := bA.setCell (Nat.le_refl _) _
      obtain ⟨A2, hA2⟩ : ∃ A, A1.setCell ⟨wr.heap.size, 2, none⟩ (.slice Af M cf) = A := ⟨_, rfl⟩
      rw [hA2] at kB bB
      simp only [List.setIfInBounds_toArray, List.set_cons_succ, List.set_cons_zero] at kB
      have e0 := kB.cell 0
      have e1 := kB.cell 1
      have e2 := kB.cell 2
      have e3 := kB.cell 3
      simp only [List.getElem?_toArray, List.getElem?_cons_zero, List.getElem?_cons_succ] at e0 e1 e2 e3
      have hW2 := hW.out.trans (bB.mono hW.out.size)
      have CM := Lib.hid (made_any ⟨owner, version, fs.take 8, ls⟩ _ _ A2 (hst.below bB) (hsl.below bB))
      have HK2 := Lib.hid (hK.out.below bB)
      have HD2 := Lib.hid (hD.out.below bB)
      have HW2 := Lib.hid hW2
      have HMD := Lib.hid hxf.made
      have HX0 := Lib.hid hx
      clear hcl up hsf hsl hxf hst bA bB kA kB hW2 hK hD hW hx hM
      go_wp2_with fail
      refine CM.out.mono ?_
      rintro e w3 ⟨vf1, vl1, vf2, vl2, rfl, p1, p2, b3⟩
      have hme : ({ owner := owner, version := version, fs := (fs.take 8).take 70, ls := ls.take 20 } : Ad) = madeA ⟨owner, version, fs, ls⟩ := by unfold madeA; simp [List.take_take]
      simp only at p1 p2 ⊢
      rw [hme] at p1 p2 ⊢
      obtain ⟨m, hm⟩ : ∃ m, madeA ⟨owner, version, fs, ls⟩ = m := ⟨_, rfl⟩
      have hmf := HMD.out
      have hxk := HXK.out
      rw [hm] at p1 p2 hmf hxk ⊢
      have HXM := Lib.hid hxk
      obtain ⟨af1, cf1, rfl, -, -, -⟩ := p1.fs.form
      obtain ⟨al1, cl1, rfl, -, -, -⟩ := p1.ls.form
      obtain ⟨af2, cf2, rfl, -, -, -⟩ := p2.fs.form
      obtain ⟨al2, cl2, rfl, -, -, -⟩ := p2.ls.form
      have hs23 : w.heap.size ≤ A2.heap.size := HW2.out.size
      have kP := blk_at w3 (adA m (.slice af1 m.fs.length cf1) (.slice al1 m.ls.length cl1)) 47 rfl
      have bP := (Below.refl w3.heap.size w3).alloc (Nat.le_refl _) (.cells (adA m (.slice af1 m.fs.length cf1) (.slice al1 m.ls.length cl1)) 47)
      obtain ⟨P1, hP1⟩ : ∃ P, w3.alloc (.cells (adA m (.slice af1 m.fs.length cf1) (.slice al1 m.ls.length cl1)) 47) = P := ⟨_, rfl⟩
      rw [hP1] at kP bP
      have kQ := blk_at P1 (adA m (.slice af2 m.fs.length cf2) (.slice al2 m.ls.length cl2)) 69 rfl
      have bQ := (Below.refl P1.heap.size P1).alloc (Nat.le_refl _) (.cells (adA m (.slice af2 m.fs.length cf2) (.slice al2 m.ls.length cl2)) 69)
      obtain ⟨P2, hP2⟩ : ∃ P, P1.alloc (.cells (adA m (.slice af2 m.fs.length cf2) (.slice al2 m.ls.length cl2)) 69) = P := ⟨_, rfl⟩
      rw [hP2] at kQ bQ
      have b32 := b3.trans ((bP.trans (bQ.mono bP.size)).mono b3.size)
      have bP2 := bP.trans (bQ.mono bP.size)
      have HK3 := Lib.hid (HK2.out.below b32)
      have HD3 := Lib.hid (HD2.out.below b32)
      have HW3 := Lib.hid (HW2.out.trans (b32.mono HW2.out.size))
      have HP3 := Lib.hid (kP.of_below bQ)
      have HQ3 := Lib.hid kQ
      have HA1 := Lib.hid (p1.below bP2)
      have HA2 := Lib.hid ((p2.below bP2).mono hs23)
      have CL := Lib.hid (kblearn_any w.heap.size (w.heap.size + 1) w.heap.size k (kbUp (l.take k)) m _ _ _ P2 HK3.out (by omega) HA1.out hmf (HT.out.below HW3.out))
      have r0 := HP3.out.cell 0
      have r1 := HP3.out.cell 1
      have r2 := HP3.out.cell 2
      have r3 := HP3.out.cell 3
      have HMF := Lib.hid hmf
      have hpe : P1.heap.size = w3.heap.size + 1 := by rw [← hP1]; simp
      rw [hpe] at HQ3
      simp only [adA, List.getElem?_toArray, List.getElem?_cons_zero, List.getElem?_cons_succ] at r0 r1 r2 r3
      unfold adA at CL hP1 hP2 ⊢
      clear p1 p2 b3 kP bP kQ bQ b32 bP2 hme hm hxk hmf CM HXK hs23 e0 e1 e2 e3 a2 fz2 hA1 hA2 c0 c1 c2 c3
      go_wp2_with fail
      clear r0 r1 r2 r3 hP1 hP2
      refine CL.out.mono ?_
      rintro e w4 ⟨bb, cc, rfl, -, hk4, hf4⟩
      obtain ⟨MM, hmap, -⟩ := HK3.out.map
      have HQ4 := Lib.hid (HQ3.out.frM hmap hf4)
      have HA4 := Lib.hid (HA2.out.frM hmap hf4)
      have HD4 := Lib.hid (HD3.out.frM hmap hf4)
      have HW4 := Lib.hid (HW3.out.trans hf4.below)
      rw [← HXM.out] at hk4
      have HK4 := Lib.hid hk4
      have CD := Lib.hid (dlearn_any w.heap.size dp E (kbUp (l.take k)) m _ _ w4 HD4.out hR.out (by have := hEl.out; omega) HA4.out HMF.out)
      have r0 := HQ4.out.cell 0
      have r1 := HQ4.out.cell 1
      have r2 := HQ4.out.cell 2
      have r3 := HQ4.out.cell 3
      simp only [adA, List.getElem?_toArray, List.getElem?_cons_zero, List.getElem?_cons_succ] at r0 r1 r2 r3
      unfold adA at CD
      clear hmap hf4 hk4 CL
      go_wp2_with fail
      clear r0 r1 r2 r3
      refine CD.out.mono ?_
      rintro e w5 ⟨bb', cc', E', rfl, hR5, hl5, hD5, hf5⟩
      obtain ⟨vd, hvd, -⟩ := HD4.out.ex
      rw [← HXM.out] at hR5
      have HK5 := Lib.hid (HK4.out.frB hvd hf5)
      have HD5 := Lib.hid hD5
      have HR5 := Lib.hid hR5
      have HL5 : Hid (E'.length ≤ k + 1) := Lib.hid (by have := hEl.out; omega)
      have HW5 := Lib.hid (HW4.out.trans hf5.below)
      clear hvd hf5 hD5 hR5 hl5 CD
      go_wp2_with fail
      go_roundw
      case rel => exact ⟨k + 1, E', by go_num, by omega, HK5, HD5, HR5, HL5, HW5⟩
      case measure => simp [intOf]; omega
    · obtain rfl : k = N := by omega
      go_wp2_with fail
      go_ret2
      exact basePost_mk HX.out hK.out hN12 hD.out hR.out (Nat.le_trans hEl.out hN12) hW.out
end Go.Proofs.YtenoaonlngndpaaDoor

/- aqueductlaw22's wakes: plain. -/
namespace Go.Proofs.YtenoaonlngndpaaDoor
set_option linter.unusedVariables false
set_option linter.unusedSimpArgs false
open Go.RowKit Go.Maps Pl Go.Shelf
def wkL : Lk := { peer := 1, rule := { pat := ⟨#[35]⟩, dir := 0, qos := 2, loc := ⟨#[]⟩, rem := ⟨#[120, 47]⟩ } }
def wk1 : Ad := ⟨0, 1, [], [wkL]⟩
def wk2 : Ad := ⟨1, 1, [⟨#[120, 47, 97]⟩], []⟩
def wkK : Kb := learn (learn (fun _ => none) wk1) wk2
theorem wk_g1 : goodA wk1 = true := by kernel_rfl
theorem wk_g2 : goodA wk2 = true := by kernel_rfl
theorem wk_t : wants wkK 0 ⟨#[97]⟩ 1 = true := by kernel_rfl
theorem wk_f : wants wkK 0 ⟨#[97]⟩ 0 = false := by kernel_rfl
theorem own_one {w : World} {B b sz : Nat} {T : TypeId} {cs : Array Value} (hb : Blk w b cs T) (hB : B ≤ b) (hs : cs.size = sz) : Sl B w T sz (.slice (some ⟨b, 0, none⟩) 1 1) 1 cs.toList := by
  subst hs
  exact Sl.of_own ⟨by simp, .inr ⟨b, 1, _, rfl, hB, hb, by omega, by unfold maxLen; omega, by simp, by first | (rw [Nat.one_mul, ← Array.length_toList, List.take_length]) | (simp only [Nat.one_mul]; exact List.take_of_length_le (by simp))⟩⟩
set_option maxHeartbeats 4000000 in
set_option maxRecDepth 100000 in
theorem lwakes_any (w : World) (hT : Tabs w) : Calls Tryd.prog 10 #[] w fun e w' => e = .returned (.bool true) ∧ Below w.heap.size w w' := by
  have HT := Lib.hid hT
  clear hT
  go_enter Tryd.func10, Tryd.ntmps10
  go_wp2_with fail
  refine (kbnew_any w).mono ?_
  rintro e w1 ⟨rfl, hk1, hb1⟩
  have kA := blk_at w1 (lkA wkL) 55 rfl
  have bA := (Below.refl w1.heap.size w1).alloc (Nat.le_refl _) (.cells (lkA wkL) 55)
  obtain ⟨A1, hA1⟩ : ∃ A, w1.alloc (.cells (lkA wkL) 55) = A := ⟨_, rfl⟩
  rw [hA1] at kA bA
  have hB1 := hb1.trans (bA.mono hb1.size)
  have had : AdAt w.heap.size A1 55 wk1 (.slice none 0 0) (.slice (some ⟨w1.heap.size, 0, none⟩) 1 1) := ⟨Sl.nil _ _ _ _, own_one kA hb1.size rfl⟩
  have HB1 := Lib.hid hB1
  have CL : Hid (Calls Tryd.prog 19 #[.pointer (some ⟨w.heap.size + 1, 0, none⟩), .agg #[.int .i64 0, .int .i64 1, .slice none 0 0, .slice (some ⟨w1.heap.size, 0, none⟩) 1 1]] A1 (LrnPost w.heap.size (w.heap.size + 1) w.heap.size 0 (fun _ => none) wk1 A1)) :=
    Lib.hid (kblearn_any w.heap.size (w.heap.size + 1) w.heap.size 0 (fun _ => none) wk1 _ _ w.heap.size A1 (hk1.below bA) (by omega) had (good_fits wk_g1) (HT.out.below hB1))
  simp only [lkA, wkL] at hA1
  clear kA bA hB1 had hk1 hb1
  go_wp2_with fail
  refine CL.out.mono ?_
  rintro e w2 ⟨b2, c2, rfl, hc2, hk2, hf2⟩
  obtain rfl := hc2 wk_g1
  have HK2 := Lib.hid hk2
  have HB2 := Lib.hid (HB1.out.trans hf2.below)
  clear hc2 hk2 hf2 hA1 CL HB1
  have kA := blk_at w2 #[.string ⟨#[120, 47, 97]⟩] 9 rfl
  have bA := (Below.refl w2.heap.size w2).alloc (Nat.le_refl _) (.cells #[.string ⟨#[120, 47, 97]⟩] 9)
  obtain ⟨A2, hA2⟩ : ∃ A, w2.alloc (.cells #[.string ⟨#[120, 47, 97]⟩] 9) = A := ⟨_, rfl⟩
  rw [hA2] at kA bA
  have hB2 := HB2.out.trans (bA.mono HB2.out.size)
  have had : AdAt w.heap.size A2 55 wk2 (.slice (some ⟨w2.heap.size, 0, none⟩) 1 1) (.slice none 0 0) := ⟨own_one kA HB2.out.size rfl, Sl.nil _ _ _ _⟩
  have HB3 := Lib.hid hB2
  have CL : Hid (Calls Tryd.prog 19 #[.pointer (some ⟨w.heap.size + 1, 0, none⟩), .agg #[.int .i64 1, .int .i64 1, .slice (some ⟨w2.heap.size, 0, none⟩) 1 1, .slice none 0 0]] A2 (LrnPost w.heap.size (w.heap.size + 1) w.heap.size 1 (Pl.learn (fun _ => none) wk1) wk2 A2)) :=
    Lib.hid (kblearn_any w.heap.size (w.heap.size + 1) w.heap.size 1 (Pl.learn (fun _ => none) wk1) wk2 _ _ w.heap.size A2 (HK2.out.below bA) (by omega) had (good_fits wk_g2) (HT.out.below hB2))
  clear kA bA hB2 had
  go_wp2_with fail
  refine CL.out.mono ?_
  rintro e w3 ⟨b3, c3, rfl, hc3, hk3, hf3⟩
  obtain rfl := hc3 wk_g2
  have HB4 := Lib.hid (HB3.out.trans hf3.below)
  have HK4 := Lib.hid (show KbAt w.heap.size (w.heap.size + 1) w.heap.size 2 wkK w3 from hk3)
  have W1 := wants_any w.heap.size (w.heap.size + 1) w.heap.size 2 wkK 0 1 ⟨#[97]⟩ w3 HK4.out (by omega) (by omega) (by omega) (by omega) (by decide) (HT.out.below HB4.out)
  rw [wk_t] at W1
  have CW1 := Lib.hid W1
  clear hc3 hk3 hf3 hA2 CL HB3 HB2 HK2 W1
  go_wp2_with fail
  refine CW1.out.mono ?_
  rintro e w5 ⟨rfl, b5⟩
  have W0 := wants_any w.heap.size (w.heap.size + 1) w.heap.size 2 wkK 0 0 ⟨#[97]⟩ w5 (HK4.out.below b5) (by omega) (by omega) (by omega) (by omega) (by decide) ((HT.out.below HB4.out).below b5)
  rw [wk_f] at W0
  have CW0 := Lib.hid W0
  have HB5 := Lib.hid (HB4.out.trans (b5.mono HB4.out.size))
  clear W0 b5 CW1
  go_wp2_with fail
  refine CW0.out.mono ?_
  rintro e w6 ⟨rfl, b6⟩
  have HB6 := Lib.hid (HB5.out.trans (b6.mono HB5.out.size))
  clear b6
  go_wp2_with fail
  go_ret
  exact ⟨rfl, HB6.out⟩
end Go.Proofs.YtenoaonlngndpaaDoor

/- The document's met and Places. -/
namespace Go.Proofs.YtenoaonlngndpaaDoor
set_option linter.unusedVariables false
set_option linter.unusedSimpArgs false
open Go.RowKit Go.Maps Pl Go.Shelf

theorem metP_take {out : List Plc} {b : Int} {t : ByteArray} {k : Nat} {x : Plc} (h : metP (out.take k) b t = false) (hx : out[k]? = some x) (hn : ¬ (x.br = b ∧ x.tp = t)) : metP (out.take (k + 1)) b t = false := by
  unfold metP at h ⊢
  refine any_take_false h hx ?_
  rw [← Bool.not_eq_true]
  simp only [Bool.and_eq_true, decide_eq_true_eq]
  exact hn
theorem metP_get {out : List Plc} {b : Int} {t : ByteArray} {k : Nat} {x : Plc} (hx : out[k]? = some x) (h1 : x.br = b) (h2 : x.tp = t) : metP out b t = true := by
  unfold metP
  exact any_get hx (by simp [h1, h2])
theorem dpl_cells {w : World} {B : Nat} {T : TypeId} {out : List Plc} {ao : Option Addr} {cap : Nat} (h : Sl B w T 3 (.slice ao out.length cap) out.length (out.flatMap plC)) {i : Nat} {x : Plc} (hi : out[i]? = some x) :
    ∃ g o, ao = some ⟨g, o, none⟩ ∧ B ≤ g ∧ g < w.heap.size ∧ w.cell? ⟨g, o + i * 3, none⟩ = some (.int .i64 x.br) ∧ w.cell? ⟨g, o + i * 3 + 1, none⟩ = some (.string x.tp) ∧ w.cell? ⟨g, o + i * 3 + 2, none⟩ = some (.int .i64 x.hp) := by
  have hlt := getElem?_lt hi
  obtain ⟨g, o, cap, e, hB, hg, -, -, hc⟩ := h.at (by omega)
  cases e
  have f := fun j u (hu : (plC x)[j]? = some u) => hc _ _ (flat_get plC 3 (fun _ => rfl) out i x hi j u hu)
  exact ⟨g, o, rfl, hB, hg, f 0 _ rfl, f 1 _ rfl, f 2 _ rfl⟩
theorem str_eq_true {a b : ByteArray} (h : a = b) : (a.toList == b.toList) = true := by rw [h]; simp
theorem str_eq_false {a b : ByteArray} (h : a ≠ b) : (a.toList == b.toList) = false := by
  rw [beq_eq_false_iff_ne, ByteArray.toList_eq, ByteArray.toList_eq]
  intro c
  apply h
  cases a
  cases b
  simpa using c
set_option maxHeartbeats 2000000 in
set_option maxRecDepth 100000 in
theorem dmet_any (B : Nat) (out : List Plc) (v : Value) (b : Int) (t : ByteArray) (w : World) (h : Sl B w 36 3 v out.length (out.flatMap plC)) (hl : out.length ≤ 1000) :
    Calls Tryd.prog 24 #[v, .int .i64 b, .string t] w fun e w' => e = .returned (.bool (metP out b t)) ∧ w' = w := by
  obtain ⟨ao, cap, rfl, q1, q2, -⟩ := h.form
  unfold maxLen at q2
  have HS := Lib.hid h
  clear h
  go_enter Tryd.func24, Tryd.ntmps24
  go_wp2_with fail
  go_loopw [7] (fun i wr => ∃ (k : Nat), i = .int .i64 k ∧ k ≤ out.length ∧ Hid (metP (out.take k) b t = false) ∧ Hid (w = wr)) (fun i _ => out.length - (intOf i).toNat)
  case atStart => exact ⟨0, rfl, Nat.zero_le _, Lib.hid rfl, Lib.hid rfl⟩
  case round =>
    obtain ⟨k, rfl, hk, hN, hW⟩ := hrel
    obtain rfl := hW.out
    by_cases hlt : k < out.length
    · have hkM : (k : Int) < (out.length : Int) := by omega
      obtain ⟨y, hy⟩ : ∃ y, out[k]? = some y := ⟨_, List.getElem?_eq_getElem (by omega)⟩
      obtain ⟨g, o, rfl, -, hg, m0, m1, m2⟩ := dpl_cells HS.out hy
      have hy := Lib.hid hy
      obtain ⟨br, tp, hp⟩ := y
      simp only at m0 m1 m2
      by_cases hx : br = b
      · have d1 : (br == b) = true := by simpa using hx
        by_cases ht : tp = t
        · have d2 : (tp.toList == t.toList) = true := str_eq_true ht
          have HF := Lib.hid (metP_get hy.out hx ht)
          clear hx ht
          go_wp2_with fail
          go_ret
          exact ⟨ret_bool HF.out.symm, rfl⟩
        · have d2 : (tp.toList == t.toList) = false := str_eq_false ht
          have HF := Lib.hid (metP_take hN.out hy.out (fun c => ht c.2))
          clear hx ht
          go_wp2_with fail
          go_roundw
          case rel => exact ⟨k + 1, by go_num, by omega, HF, Lib.hid trivial⟩
          case measure => simp [intOf]; omega
      · have d1 : (br == b) = false := beq_eq_false_iff_ne.2 hx
        have HF := Lib.hid (metP_take hN.out hy.out (fun c => hx c.1))
        clear hx
        go_wp2_with fail
        go_roundw
        case rel => exact ⟨k + 1, by go_num, by omega, HF, Lib.hid trivial⟩
        case measure => simp [intOf]; omega
    · obtain rfl : k = out.length := by omega
      have hF := Lib.hid (show metP out b t = false by have := hN.out; rwa [List.take_length] at this)
      have hnl : ¬ ((out.length : Int) < (out.length : Int)) := by omega
      go_wp2_with fail
      go_ret
      exact ⟨ret_bool hF.out.symm, rfl⟩
end Go.Proofs.YtenoaonlngndpaaDoor

/- The document's Places: the walk. -/
namespace Go.Proofs.YtenoaonlngndpaaDoor
set_option linter.unusedVariables false
set_option linter.unusedSimpArgs false
open Go.RowKit Go.Maps Pl Go.Shelf

theorem info_dpl : (Tryd.prog.info? 36).map (fun i => (i.zero, i.size, i.bytes)) = some (some (.agg #[.int .i64 0, .string ⟨#[]⟩, .int .i64 0]), 3, 32) := by kernel_rfl
theorem wpList_dpl {ops : Array Oper} {rest : List Oper} {o : Oper} {a : Act} {w : World} {Q : Exit → Act → World → Prop} (s x : Operand) (B n : Nat) (v : Value) (l : List Plc) (q : Plc) (b : Nat)
    (hgd : o.guard = none) (ho : o.op = .call { callee := .builtin .append, args := #[s, x], argTypes := #[31, 31] })
    (hs : a.eval s = v) (hx : a.eval x = .slice (some ⟨b, 0, none⟩) 1 1) (h : Sl B w 36 3 v n (l.flatMap plC)) (hb : Blk w b (plA q) 36) (hB : B ≤ w.heap.size) (hl : n ≤ 1048576)
    (hK : ∀ v' w', Sl B w' 36 3 v' (n + 1) ((l ++ [q]).flatMap plC) → w.grownBy w' v.ownBlock → (v'.ownBlock = v.ownBlock ∨ v'.ownBlock = some w.heap.size) → wpList Tryd.prog ops Q rest (a.put o.dst v') w') :
    wpList Tryd.prog ops Q (o :: rest) a w := by
  obtain ⟨i1, hi1, hi1z, hi1s, hi1b⟩ := info_parts info_dpl
  refine wpList_append_sl s x 31 i1 _ _ b (plA q) hgd ho Tryd.underlying31 hi1 hi1z hi1s hi1b rfl (by decide) rfl (by intro u hu; exact plC_one q u hu) hs hx h hb hB (by unfold maxLen; omega) (by omega) ?_
  intro v' w' r1 r2 r3
  exact hK v' w' (by rw [flat_snoc]; exact r1) r2 r3
theorem step_dpl {w : World} {ops : Array Oper} {o : Oper} {a : Act} {K : Act → World → Prop} {Q : Exit → Act → World → Prop} {E : Prop} (hgd : o.guard = none) (s x : Operand)
    (ho : o.op = .call { callee := .builtin .append, args := #[s, x], argTypes := #[31, 31] }) (B n : Nat) (v : Value) (l : List Plc) (q : Plc) (b : Nat)
    (hs : a.eval s = v) (hx : a.eval x = .slice (some ⟨b, 0, none⟩) 1 1) (h : Sl B w 36 3 v n (l.flatMap plC)) (hb : Blk w b (plA q) 36) (hB : B ≤ w.heap.size) (hl : n ≤ 1048576)
    (hK : ∀ v' w', Sl B w' 36 3 v' (n + 1) ((l ++ [q]).flatMap plC) → w.grownBy w' v.ownBlock → (v'.ownBlock = v.ownBlock ∨ v'.ownBlock = some w.heap.size) → K (a.put o.dst v') w') :
    if Region.wanted o (yielded ops a.tmps) = true then Oper.wp Tryd.prog o a w K Q else E := by
  rw [if_pos (by simp [Region.wanted, hgd])]
  obtain ⟨i1, hi1, hi1z, hi1s, hi1b⟩ := info_parts info_dpl
  obtain ⟨v', w', hrun, r1, r2, r3⟩ := run_append_sl (P := Tryd.prog) 31 o.type i1 _ _ Tryd.underlying31 hi1 hi1z hi1s hi1b rfl (by decide) h ⟨b, 0, none⟩ 1 1 (plC q) rfl (World.news_of_block hb) (plC_one q) (by unfold maxLen; omega) (by omega) hB
  unfold Oper.wp
  simp [execOp, ho, resolve, invoke, builtin, hs, hx, hrun, Result.andThen]
  exact hK _ _ (by rw [flat_snoc]; exact r1) r2 r3
abbrev S3e (X : World) (b14 g q b13 : Nat) (vl : Value) (peer hp : Int) : Prop := X.cell? ⟨b14, 3, none⟩ = some vl ∧ X.cell? ⟨g, q, none⟩ = some (.int .i64 peer) ∧ X.cell? ⟨b13, 2, none⟩ = some (.int .i64 hp)
theorem s3e_below {X X' : World} {b14 g q b13 : Nat} {vl : Value} {peer hp : Int} (h : S3e X b14 g q b13 vl peer hp) (m : Below X.heap.size X X') (h1 : b14 < X.heap.size) (h2 : g < X.heap.size) (h3 : b13 < X.heap.size) : S3e X' b14 g q b13 vl peer hp :=
  ⟨(m.cell (p := ⟨b14, 3, none⟩) h1).trans h.1, (m.cell (p := ⟨g, q, none⟩) h2).trans h.2.1, (m.cell (p := ⟨b13, 2, none⟩) h3).trans h.2.2⟩
def DplPost (r : List Plc × Bool) (w : World) (e : Ending) (w' : World) : Prop := ∃ v H, e = .returned (.tuple #[v, .bool r.2]) ∧ Sl w.heap.size w' 36 3 v r.1.length (r.1.flatMap plC) ∧ Below w.heap.size w w' ∧ PlB H r.1
theorem dplPost_mk {r : List Plc × Bool} {out : List Plc} {b : Bool} {w w' : World} {v : Value} (hr : r = (out, b)) (h : Sl w.heap.size w' 36 3 v out.length (out.flatMap plC)) (hb : Below w.heap.size w w') {H : Int} (hP : PlB H out) : DplPost r w (.returned (.tuple #[v, .bool b])) w' := by
  subst hr
  exact ⟨v, H, rfl, h, hb, hP⟩
theorem rep_lks {K : Kb} {E : List Ent} (h : Rep K E) (x : Int) : lks K x = ((ofE E x).getD zEnt).1.ls := by
  unfold lks
  rw [h x]
  cases ofE E x <;> rfl
theorem rep_fls {K : Kb} {E : List Ent} (h : Rep K E) (x : Int) : fls K x = ((ofE E x).getD zEnt).1.fs := by
  unfold fls
  rw [h x]
  cases ofE E x <;> rfl
theorem db_ent {B bp : Nat} {E : List Ent} {w : World} (h : DbAt B bp E w) (x : Int) : AdAt B w 86 ((ofE E x).getD zEnt).1 ((ofE E x).getD zEnt).2.1 ((ofE E x).getD zEnt).2.2 := by
  cases hO : ofE E x with
  | none => exact ⟨Sl.nil _ _ _ _, Sl.nil _ _ _ _⟩
  | some y =>
    have := h.ads y (List.mem_of_find?_eq_some hO)
    exact this
/-- What a round reads of a rule and of a place. -/
abbrev S6r (X : World) (b14 g q b13 : Nat) (vl : Value) (rule : Rl) (tp : ByteArray) : Prop := X.cell? ⟨b14, 3, none⟩ = some vl ∧ X.cell? ⟨g, q + 1, none⟩ = some (.string rule.pat) ∧ X.cell? ⟨g, q + 2, none⟩ = some (.int .i64 rule.dir) ∧ X.cell? ⟨g, q + 3, none⟩ = some (.int .i64 rule.qos) ∧ X.cell? ⟨g, q + 4, none⟩ = some (.string rule.loc) ∧ X.cell? ⟨g, q + 5, none⟩ = some (.string rule.rem) ∧ X.cell? ⟨b13, 1, none⟩ = some (.string tp)

theorem s6r_below {X X' : World} {b14 g q b13 : Nat} {vl : Value} {rule : Rl} {tp : ByteArray} (h : S6r X b14 g q b13 vl rule tp) (m : Below X.heap.size X X') (h1 : b14 < X.heap.size) (h2 : g < X.heap.size) (h3 : b13 < X.heap.size) : S6r X' b14 g q b13 vl rule tp := by
  obtain ⟨a1, a2, a3, a4, a5, a6, a7⟩ := h
  have u := fun i => m.cell (p := ⟨g, i, none⟩) h2
  exact ⟨(m.cell (p := ⟨b14, 3, none⟩) h1).trans a1, (u _).trans a2, (u _).trans a3, (u _).trans a4, (u _).trans a5, (u _).trans a6, (m.cell (p := ⟨b13, 1, none⟩) h3).trans a7⟩
set_option maxHeartbeats 8000000 in
set_option maxRecDepth 100000 in
theorem dplaces_any (B bp : Nat) (E : List Ent) (K : Kb) (at' h : Int) (name : ByteArray) (w : World) (hD : DbAt B bp E w) (hR : Rep K E) (hok : KbOk K) (hE : E.length ≤ 1000) (ha0 : -9223372036854775808 ≤ at') (ha1 : at' ≤ 9223372036854775807) (hh0 : -9223372036854775808 ≤ h) (hh1 : h ≤ 9223372036854775807) (hn : name.size ≤ 140737488351232) :
    Calls Tryd.prog 9 #[.pointer (some ⟨bp, 0, none⟩), .int .i64 at', .string name, .int .i64 h] w (DplPost (places K at' name h) w) := by
  have CN := Lib.hid (refcheckname_any name w (by omega))
  have HD := Lib.hid hD
  have HR := Lib.hid hR
  have HOK := Lib.hid hok
  have hno : ∀ (hx : plOk at' name h = false), Hid (places K at' name h = ([], true)) := fun hx => Lib.hid (by unfold places; rw [hx]; rfl)
  clear hD hR hok
  cases hnm : nameB name
  · have HX := hno (by unfold plOk; rw [hnm]; rfl)
    have hc : nameC name = 144 := by unfold nameC; rw [hnm]; rfl
    rw [hc] at CN
    clear hnm hc hno
    go_enter Tryd.func9, Tryd.ntmps9
    go_wp2_with (first | (go_at_call 21; (with_reducible refine CN.out.mono ?_); rintro e w1 ⟨rfl, b1⟩; have HB1 := Lib.hid b1; clear b1) | (fail))
    go_ret2
    exact dplPost_mk HX.out (Sl.nil _ _ _ _) HB1.out plB_nil
  have hc : nameC name = 0 := by unfold nameC; rw [hnm]; rfl
  rw [hc] at CN
  clear hc
  by_cases h1 : at' < 0
  · have HX := hno (by unfold plOk; rw [decide_eq_false (show ¬ 0 ≤ at' by omega)]; simp)
    have d1 : decide (at' < 0) = true := by simpa using h1
    clear hnm hno
    go_enter Tryd.func9, Tryd.ntmps9
    go_wp2_with (first | (go_at_call 21; (with_reducible refine CN.out.mono ?_); rintro e w1 ⟨rfl, b1⟩; have HB1 := Lib.hid b1; clear b1) | (fail))
    go_ret2
    exact dplPost_mk HX.out (Sl.nil _ _ _ _) HB1.out plB_nil
  have d1 : decide (at' < 0) = false := by simpa using h1
  by_cases h2 : 8 ≤ at'
  · have HX := hno (by unfold plOk; rw [decide_eq_false (show ¬ at' < 8 by omega)]; simp)
    have d2 : decide (8 ≤ at') = true := by simpa using h2
    clear hnm hno
    go_enter Tryd.func9, Tryd.ntmps9
    go_wp2_with (first | (go_at_call 21; (with_reducible refine CN.out.mono ?_); rintro e w1 ⟨rfl, b1⟩; have HB1 := Lib.hid b1; clear b1) | (fail))
    go_ret2
    exact dplPost_mk HX.out (Sl.nil _ _ _ _) HB1.out plB_nil
  have d2 : decide (8 ≤ at') = false := by simpa using h2
  by_cases h3 : h < 0
  · have HX := hno (by unfold plOk; rw [decide_eq_false (show ¬ 0 ≤ h by omega)]; simp)
    have d3 : decide (h < 0) = true := by simpa using h3
    clear hnm hno
    go_enter Tryd.func9, Tryd.ntmps9
    go_wp2_with (first | (go_at_call 21; (with_reducible refine CN.out.mono ?_); rintro e w1 ⟨rfl, b1⟩; have HB1 := Lib.hid b1; clear b1) | (fail))
    go_ret2
    exact dplPost_mk HX.out (Sl.nil _ _ _ _) HB1.out plB_nil
  have d3 : decide (h < 0) = false := by simpa using h3
  obtain ⟨H, hH⟩ : ∃ H : Int, min h 32 = H := ⟨_, rfl⟩
  have hH0 : 0 ≤ H := by omega
  have hH1 : H ≤ 32 := by omega
  have HX := Lib.hid (show places K at' name h = plLoop K H 257 0 [⟨at', name, 0⟩] by
    unfold places plOk
    rw [hnm, decide_eq_true (show 0 ≤ at' by omega), decide_eq_true (show at' < 8 by omega), decide_eq_true (show 0 ≤ h by omega), hH]
    rfl)
  have hns := nameB_size hnm
  clear hno hnm
  go_enter Tryd.func9, Tryd.ntmps9
  go_wp2_with fail
  refine CN.out.mono ?_
  rintro e w1 ⟨rfl, b1⟩
  have HB1 := Lib.hid b1
  have HHH := Lib.hid hH
  clear b1 CN hH
  go_upto_if 37 with fail
  go_cut [3] (fun v X => v = .int .i64 H ∧ w1 = X)
  case first =>
    by_cases h4 : 32 < h
    · have d4 : decide (32 < h) = true := by simpa using h4
      obtain rfl : H = 32 := by have := HHH.out; omega
      go_wp2_with fail
      go_meet
      exact ⟨rfl, rfl⟩
    · have d4 : decide (32 < h) = false := by simpa using h4
      obtain rfl : H = h := by have := HHH.out; omega
      go_wp2_with fail
      go_meet
      exact ⟨rfl, rfl⟩
  case rest =>
  obtain ⟨rfl, rfl⟩ := hcut
  have k1 := blk_at w1 (plA ⟨at', name, 0⟩) 36 rfl
  have bb1 := HB1.out.alloc HB1.out.size (.cells (plA ⟨at', name, 0⟩) 36)
  have ho1 : (w1.alloc (.cells (plA ⟨at', name, 0⟩) 36)).ownsRow w.heap.size 36 3 (.slice (some ⟨w1.heap.size, 0, none⟩) 1 1) 1 (plC ⟨at', name, 0⟩) := by
    refine ⟨rfl, .inr ⟨w1.heap.size, 1, _, rfl, HB1.out.size, k1, by omega, by unfold maxLen; omega, by simp [plA], rfl⟩⟩
  obtain ⟨Y1, hY1⟩ : ∃ Y1, w1.alloc (.cells (plA ⟨at', name, 0⟩) 36) = Y1 := ⟨_, rfl⟩
  rw [hY1] at k1 bb1 ho1
  have HO3 := Lib.hid (Sl.of_own ho1)
  have HB3 := Lib.hid bb1
  simp only [plA] at hY1
  clear k1 bb1 ho1 HB1 HHH
  go_wp2_with fail
  clear hY1 d1 d2 d3
  go_loopw [11, 12] (fun ov iv wr => ∃ (i f : Nat) (out : List Plc), iv = .int .i64 i ∧ i ≤ 256 ∧ f + i = 257 ∧ Hid (i ≤ out.length) ∧ Hid (places K at' name h = plLoop K H f i out) ∧ Hid (PlB H out) ∧ Hid (Sl w.heap.size wr 36 3 ov out.length (out.flatMap plC)) ∧ Hid (Below w.heap.size w wr)) (fun _ iv _ => (257 - intOf iv).toNat)
  case atStart => exact ⟨0, 257, [⟨at', name, 0⟩], rfl, by omega, rfl, Lib.hid (by simp), HX, Lib.hid ⟨by simp, fun p hp => by obtain rfl := List.mem_singleton.1 hp; exact ⟨Int.le_refl _, hH0, hns, by show 0 ≤ at'; omega, by show at' < 8; omega⟩⟩, HO3, HB3⟩
  case round =>
    obtain ⟨i, f, out, rfl, hi, hf, hil, hX, hP, hO, hW⟩ := hrel
    obtain ⟨ao, cap, rfl, q1, q2, -⟩ := hO.out.form
    have hol : out.length ≤ 256 := hP.out.1
    unfold maxLen at q2
    by_cases hio : i < out.length
    · obtain ⟨p, hp⟩ : ∃ p, out[i]? = some p := ⟨_, List.getElem?_eq_getElem hio⟩
      have hpb := hP.out.2 p (List.mem_of_getElem? hp)
      obtain ⟨g, o, rfl, hg0, hg1, e0, e1, e2⟩ := dpl_cells hO.out hp
      have hiI : (i : Int) < (out.length : Int) := by omega
      have HP0 := Lib.hid hp
      obtain ⟨f', rfl⟩ : ∃ f', f = f' + 1 := ⟨f - 1, by omega⟩
      have k1 := blk_at wr (plA p) 36 rfl
      have bX := (Below.refl wr.heap.size wr).alloc (Nat.le_refl _) (.cells (plA p) 36)
      obtain ⟨X1, hX1⟩ : ∃ X1, wr.alloc (.cells (plA p) 36) = X1 := ⟨_, rfl⟩
      rw [hX1] at k1 bX
      have hXW := hW.out.trans (bX.mono hW.out.size)
      have HO1 := Lib.hid (hO.out.below bX)
      have HW1 := Lib.hid hXW
      have HK1 := Lib.hid k1
      have x0 := k1.cell 0
      have x2 := k1.cell 2
      simp only [plA, List.getElem?_toArray, List.getElem?_cons_zero, List.getElem?_cons_succ] at x0 x2
      have HNB := Lib.hid (show (Value.slice (some ⟨g, o, none⟩) out.length cap).ownBlock ≠ some wr.heap.size from fun c => by simp [Value.ownBlock] at c; omega)
      obtain ⟨hp0, hp1, hp2, hp3, hp4⟩ := hpb
      have HPL := hP
      have HIO := Lib.hid hio
      unfold plA at hX1
      clear k1 bX hXW hp hO hW hil hio
      by_cases hh : p.hp = H
      · have d1 : (p.hp == H) = true := by simpa using hh
        have HPE := Lib.hid (plLoop_in (K := K) (H := H) (f := f') HP0.out (o2 := out) (.inl ⟨hh, rfl⟩))
        clear hh
        go_wp2_with fail
        go_roundw
        case rel => exact ⟨i + 1, f', out, by go_num, by have := HIO.out; omega, by omega, Lib.hid (by have := HIO.out; omega), Lib.hid (by rw [hX.out, HPE.out]), hP, HO1, HW1⟩
        case measure => have := HIO.out; simp [intOf]; omega
      · have d1 : (p.hp == H) = false := beq_eq_false_iff_ne.2 hh
        have HHN := Lib.hid hh
        have CO := Lib.hid (dof_any B bp E p.br X1 (HD.out.below HW1.out) hE)
        clear hh
        go_wp2_with fail
        refine CO.out.mono ?_
        rintro e w4 ⟨rfl, b4⟩
        have had0 := db_ent HD.out p.br
        have hll := lks_len HOK.out p.br
        have hlo := fun (l : Lk) (hl : l ∈ lks K p.br) => lks_ok HOK.out hl
        have hle := rep_lks HR.out p.br
        obtain ⟨en, hen⟩ : ∃ y, (ofE E p.br).getD zEnt = y := ⟨_, rfl⟩
        obtain ⟨is, his⟩ : ∃ y, (ofE E p.br).isSome = y := ⟨_, rfl⟩
        rw [hen] at had0 hle
        rw [hen, his]
        obtain ⟨a, vf, vl⟩ := en
        simp only at had0 hle
        obtain ⟨LL, hLL⟩ : ∃ LL, lks K p.br = LL := ⟨_, rfl⟩
        rw [hLL] at hll hlo hle
        obtain ⟨owner, version, fs, ls⟩ := a
        simp only at hle
        subst hle
        obtain ⟨af, kf, rfl, -, -, -⟩ := had0.fs.form
        obtain ⟨al, kl, rfl, ql1, ql2, -⟩ := had0.ls.form
        unfold maxLen at ql2
        unfold entA
        simp only
        have HLL := Lib.hid hLL
        have HLO := Lib.hid hlo
        have HL0 := Lib.hid had0.ls
        have bX5 := (Below.refl w4.heap.size w4).alloc (Nat.le_refl _) (.cells #[.int .i64 owner, .int .i64 version, .slice af fs.length kf, .slice al LL.length kl] 69)
        have k5 := blk_at w4 #[.int .i64 owner, .int .i64 version, .slice af fs.length kf, .slice al LL.length kl] 69 rfl
        obtain ⟨X5, hX5⟩ : ∃ X5, w4.alloc (.cells #[.int .i64 owner, .int .i64 version, .slice af fs.length kf, .slice al LL.length kl] 69) = X5 := ⟨_, rfl⟩
        rw [hX5] at bX5 k5
        have b15 := b4.trans (bX5.mono b4.size)
        have HP5 := Lib.hid (HK1.out.of_below b15)
        have HK5 := Lib.hid k5
        have HO5 := Lib.hid (HO1.out.below b15)
        have HW5 := Lib.hid (HW1.out.trans (b15.mono HW1.out.size))
        have hN4 : Hid ((Value.slice (some ⟨g, o, none⟩) out.length cap).ownBlock ≠ some w4.heap.size) := Lib.hid (fun c => by
          have h1 := (HO1.out.lt _ c).2
          have h2 := b4.size
          omega)
        obtain ⟨b13, hbe⟩ : ∃ b13, wr.heap.size = b13 := ⟨_, rfl⟩
        obtain ⟨b14, hb4⟩ : ∃ b14, w4.heap.size = b14 := ⟨_, rfl⟩
        rw [hbe] at HNB HP5
        rw [hb4] at HK5 hN4
        clear had0 hlo hLL b4 bX5 k5 b15 CO HO1 HW1 HK1 x0 x2 e0 e1 e2 hX1 hen his
        go_wp2_with fail
        try rw [hbe]
        try rw [hb4]
        clear hX5 hbe hb4 hg1 hg0
        go_loopw [11, 16] (fun ov jv w6 => ∃ (j : Nat) (o2 : List Plc), jv = .int .i64 j ∧ j ≤ LL.length ∧ Hid (InR p H LL out j o2) ∧ Hid (PlB H o2) ∧ Hid (out.length ≤ o2.length) ∧ Hid (ov.ownBlock ≠ some b13) ∧ Hid (ov.ownBlock ≠ some b14) ∧ Hid (Sl w.heap.size w6 36 3 ov o2.length (o2.flatMap plC)) ∧ Hid (Blk w6 b13 (plA p) 36) ∧ Hid (Blk w6 b14 #[.int .i64 owner, .int .i64 version, .slice af fs.length kf, .slice al LL.length kl] 69) ∧ Hid (Below w.heap.size w w6)) (fun _ jv _ => (LL.length - (intOf jv).toNat))
        case atStart => exact ⟨0, out, rfl, Nat.zero_le _, Lib.hid (InR.start p H LL out), HPL, Lib.hid (Nat.le_refl _), HNB, hN4, HO5, HP5, HK5, HW5⟩
        case round =>
          obtain ⟨j, o2, rfl, hj, hIn, hP2, hLe, hNb, hNc, hO2, hB13, hB14, hW2⟩ := hrel
          obtain ⟨ao2, cap2, rfl, r1, r2, -⟩ := hO2.out.form
          have ho2 : o2.length ≤ 256 := hP2.out.1
          unfold maxLen at r2
          have a3 := hB14.out.cell 3
          simp only [List.getElem?_toArray, List.getElem?_cons_zero, List.getElem?_cons_succ] at a3
          by_cases hjl : j < LL.length
          · obtain ⟨l, hl⟩ : ∃ l, LL[j]? = some l := ⟨_, List.getElem?_eq_getElem hjl⟩
            have hjI : (j : Int) < (LL.length : Int) := by omega
            obtain ⟨hlf, hlp0, hlp1⟩ := HLO.out l (List.mem_of_getElem? hl)
            obtain ⟨g6, o6, rfl, hg6, m0, m1, m2, m3, m4, m5⟩ := dlk_cells HL0.out hl
            have up := fun i => hW2.out.cell (p := ⟨g6, i, none⟩) hg6
            have m0 := (up _).trans m0
            have m1 := (up _).trans m1
            have m2 := (up _).trans m2
            have m3 := (up _).trans m3
            have m4 := (up _).trans m4
            have m5 := (up _).trans m5
            have HLJ := Lib.hid hl
            have JJ := Lib.hid hjl
            obtain ⟨peer, rule⟩ := l
            simp only at m0 m1 m2 m3 m4 m5 hlf hlp0 hlp1
            have y1 := hB13.out.cell 1
            simp only [plA, List.getElem?_toArray, List.getElem?_cons_zero, List.getElem?_cons_succ] at y1
            have s0 : S6r wr b14 g6 (o6 + j * 6) b13 (.slice (some ⟨g6, o6, none⟩) LL.length kl) rule p.tp := ⟨a3, m1, m2, m3, m4, m5, y1⟩
            have h14 : b14 < wr.heap.size := hB14.out.lt
            have h13 : b13 < wr.heap.size := hB13.out.lt
            have hg6w : g6 < wr.heap.size := Nat.lt_of_lt_of_le hg6 hW2.out.size
            have sd : S6r wr.drew b14 g6 (o6 + j * 6) b13 (.slice (some ⟨g6, o6, none⟩) LL.length kl) rule p.tp := s6r_below s0 (Below.refl _ _).drew h14 hg6w h13
            have hts := toRem_size rule p.tp
            obtain ⟨t, ht⟩ : ∃ t, (toRem rule p.tp).1 = t := ⟨_, rfl⟩
            obtain ⟨ok, hok⟩ : ∃ ok, (toRem rule p.tp).2 = ok := ⟨_, rfl⟩
            have CT : ∀ Z, Calls Tryd.prog 23 #[.agg (ruC rule), .string p.tp] Z fun e w' => e = .returned (.tuple #[.string t, .bool ok]) ∧ Below Z.heap.size Z w' := fun Z => by rw [← ht, ← hok]; exact reftoremote_any rule p.tp Z hlf (by omega)
            have CT := Lib.hid CT
            unfold ruC at CT
            rw [ht] at hts
            have HTT := Lib.hid ht
            have HOK2 := Lib.hid hok
            have M0 := Lib.hid m0
            clear up hg6 hl hjl hlf ht hok m0
            go_upto_region 16 with fail
            go_cut [17, 18] (fun tv kv X => tv = .string t ∧ kv = .bool ok ∧ Hid (Below wr.heap.size wr X))
            case first =>
              go_region_held3 (fun Z => S6r Z b14 g6 (o6 + j * 6) b13 (.slice (some ⟨g6, o6, none⟩) LL.length kl) rule p.tp) (first | (with_reducible assumption)) (first | (go_at_call 23; (with_reducible refine (CT.out _).mono ?_); rintro e xa ⟨rfl, ya⟩; have ra : S6r xa b14 g6 (o6 + j * 6) b13 (.slice (some ⟨g6, o6, none⟩) LL.length kl) rule p.tp := s6r_below (by with_reducible assumption) ya h14 hg6w h13; have RA := Lib.hid ((Below.refl wr.heap.size wr).drew.trans ya)) | (fail))
              all_goals go_wp2_with fail
              all_goals go_meet
              all_goals exact ⟨rfl, rfl, RA⟩
            case rest =>
              obtain ⟨rfl, rfl, hRA⟩ := hcut
              have HO7 := Lib.hid (hO2.out.below hRA.out)
              have HB7 := Lib.hid (hB13.out.of_below hRA.out)
              have HC7 := Lib.hid (hB14.out.of_below hRA.out)
              have HW7 := Lib.hid (hW2.out.trans (hRA.out.mono hW2.out.size))
              have a3 := HC7.out.cell 3
              have v2 := HB7.out.cell 2
              simp only [plA, List.getElem?_toArray, List.getElem?_cons_zero, List.getElem?_cons_succ] at a3 v2
              have m0 := (hRA.out.cell (p := ⟨g6, o6 + j * 6, none⟩) hg6w).trans M0.out
              have CM := Lib.hid (dmet_any w.heap.size o2 _ peer t wc HO7.out (by omega))
              obtain ⟨mt, hmt⟩ : ∃ mt, metP o2 peer t = mt := ⟨_, rfl⟩
              rw [hmt] at CM
              have HMT := Lib.hid hmt
              clear s0 sd y1 m1 m2 m3 m4 m5 CT hmt
              go_wp2_with fail
              refine CM.out.mono ?_
              rintro e w8 ⟨rfl, rfl⟩
              cases ok
              · go_wp2_with fail
                go_roundw
                case rel => exact ⟨j + 1, o2, by go_num, by have := JJ.out; omega, Lib.hid (hIn.out.skip HLJ.out (.inr (.inl HOK2.out))), hP2, hLe, hNb, hNc, HO7, HB7, HC7, HW7⟩
                case measure => have := JJ.out; simp [intOf]; omega
              · cases mt
                · by_cases hfu : o2.length = 256
                  · have hfI : ((o2.length : Int) == 256) = true := by rw [beq_iff_eq]; omega
                    have HFL := Lib.hid (plLoop_stop (f := f') HP0.out HHN.out (by rw [HLL.out]; exact hIn.out.full HLJ.out HHN.out HOK2.out (by rw [HTT.out]; exact HMT.out) (by omega)))
                    clear hfu
                    go_wp2_with fail
                    go_ret2
                    exact dplPost_mk (by rw [hX.out, HFL.out]) HO7.out HW7.out hP2.out
                  · have hfI : ((o2.length : Int) == 256) = false := by rw [beq_eq_false_iff_ne]; omega
                    have hpI : p.hp ≤ 32 := by omega
                    have hl256 : o2.length < 256 := by omega
                    have hwr : IntKind.i64.wrap (p.hp + 1) = p.hp + 1 := IntWalk.i64_in _ (by omega)
                    have bD := (Below.refl w8.heap.size w8).drew
                    have bY := bD.alloc bD.size (.cells (plA ⟨peer, t, p.hp + 1⟩) 36)
                    have kY := blk_at w8.drew (plA ⟨peer, t, p.hp + 1⟩) 36 rfl
                    have l13 := HB7.out.lt
                    have l14 := HC7.out.lt
                    have l6 : g6 < w8.heap.size := Nat.lt_of_lt_of_le hg6w hRA.out.size
                    have t0 : S3e w8 b14 g6 (o6 + j * 6) b13 (.slice (some ⟨g6, o6, none⟩) LL.length kl) peer p.hp := ⟨a3, m0, v2⟩
                    have td : S3e w8.drew b14 g6 (o6 + j * 6) b13 (.slice (some ⟨g6, o6, none⟩) LL.length kl) peer p.hp := s3e_below t0 bD l14 l6 l13
                    have tA : S3e (w8.drew.alloc (.cells (plA ⟨peer, t, p.hp + 1⟩) 36)) b14 g6 (o6 + j * 6) b13 (.slice (some ⟨g6, o6, none⟩) LL.length kl) peer p.hp := s3e_below t0 bY l14 l6 l13
                    have HOY := Lib.hid (HO7.out.below bY)
                    have HBY := Lib.hid (HB7.out.of_below bY)
                    have HCY := Lib.hid (HC7.out.of_below bY)
                    have HWY := Lib.hid (HW7.out.trans (bY.mono HW7.out.size))
                    have HKY := Lib.hid kY
                    have HIN := Lib.hid (hIn.out.add HLJ.out HHN.out HOK2.out (by rw [HTT.out]; exact HMT.out) (by omega))
                    rw [HTT.out] at HIN
                    have b13Y : b13 < (w8.drew.alloc (.cells (plA ⟨peer, t, p.hp + 1⟩) 36)).heap.size := HBY.out.lt
                    have b14Y : b14 < (w8.drew.alloc (.cells (plA ⟨peer, t, p.hp + 1⟩) 36)).heap.size := HCY.out.lt
                    have g6Y : g6 < (w8.drew.alloc (.cells (plA ⟨peer, t, p.hp + 1⟩) 36)).heap.size := Nat.lt_of_lt_of_le l6 bY.size
                    have hn6 := (HL0.out.below HWY.out).ne2 HOY.out (by decide) g6 rfl
                    clear bY kY bD hfu
                    go_wp2_with fail
                    go_region_held3 (fun X => S3e X b14 g6 (o6 + j * 6) b13 (.slice (some ⟨g6, o6, none⟩) LL.length kl) peer p.hp) (first | (with_reducible assumption) | exact t0 | exact td | exact tA) (first | (refine step_dpl (by rfl) (.tmp 100) (.tmp 112) (by rfl) w.heap.size o2.length (.slice ao2 o2.length cap2) o2 ⟨peer, t, p.hp + 1⟩ w8.heap.size (by rfl) (by rfl) HOY.out HKY.out HWY.out.size (by omega) ?_; intro v9 w9 q1 q2 q3; have t9 : S3e w9 b14 g6 (o6 + j * 6) b13 (.slice (some ⟨g6, o6, none⟩) LL.length kl) peer p.hp := ⟨(q2.cell_far ⟨b14, 3, none⟩ b14Y (fun c => hNc.out c.symm)).trans tA.1, (q2.cell_far ⟨g6, o6 + j * 6, none⟩ g6Y (fun c => hn6 c.symm)).trans tA.2.1, (q2.cell_far ⟨b13, 2, none⟩ b13Y (fun c => hNb.out c.symm)).trans tA.2.2⟩) | (fail))
                    all_goals skip
                    trace_state
                    have HO10 := Lib.hid q1
                    have HB10 := Lib.hid (HBY.out.grown q2 hNb.out)
                    have HC10 := Lib.hid (HCY.out.grown q2 hNc.out)
                    have HW10 := Lib.hid (HWY.out.grown q2 HWY.out.size (fun k hk => (HOY.out.lt k hk).1))
                    have HN10 : Hid (v9.ownBlock ≠ some b13) := Lib.hid (by
                      rcases q3 with c | c
                      · rw [c]; exact hNb.out
                      · rw [c]; intro d; injection d with d; exact absurd d (Nat.ne_of_gt b13Y))
                    have HN11 : Hid (v9.ownBlock ≠ some b14) := Lib.hid (by
                      rcases q3 with c | c
                      · rw [c]; exact hNc.out
                      · rw [c]; intro d; injection d with d; exact absurd d (Nat.ne_of_gt b14Y))
                    clear q1 q2 q3 t0 td tA hwr
                    go_wp2_with fail
                    go_roundw
                    case rel =>
                      have hlen : (o2 ++ [(⟨peer, t, p.hp + 1⟩ : Plc)]).length = o2.length + 1 := by simp
                      exact ⟨j + 1, o2 ++ [⟨peer, t, p.hp + 1⟩], by go_num, by have := JJ.out; omega, HIN, Lib.hid (hP2.out.snoc (by omega) (by show 0 ≤ p.hp + 1; omega) (by show p.hp + 1 ≤ H; have := HHN.out; omega) hts hlp0 hlp1), Lib.hid (by rw [hlen]; have := hLe.out; omega), HN10, HN11, Lib.hid (by rw [hlen, flat_snoc]; exact (by simpa using HO10.out)), HB10, HC10, HW10⟩
                    case measure => have := JJ.out; simp [intOf]; omega
                · go_wp2_with fail
                  go_roundw
                  case rel => exact ⟨j + 1, o2, by go_num, by have := JJ.out; omega, Lib.hid (hIn.out.skip HLJ.out (.inr (.inr (by rw [HTT.out]; exact HMT.out)))), hP2, hLe, hNb, hNc, HO7, HB7, HC7, HW7⟩
                  case measure => have := JJ.out; simp [intOf]; omega
          · obtain rfl : j = LL.length := by omega
            have hnl : ¬ ((LL.length : Int) < (LL.length : Int)) := by omega
            have HPN := Lib.hid (plLoop_in (K := K) (f := f') HP0.out (by rw [HLL.out]; exact hIn.out))
            go_wp2_with fail
            go_roundw
            case rel => exact ⟨i + 1, f', o2, by go_num, by have := HIO.out; omega, by omega, Lib.hid (by have := HIO.out; have := hLe.out; omega), Lib.hid (by rw [hX.out, HPN.out]), hP2, hO2, hW2⟩
            case measure => have := HIO.out; simp [intOf]; omega
    · have HPE := Lib.hid (plLoop_end (K := K) (H := H) (f := f) (i := i) (out := out) (by omega))
      have hnl : ¬ ((i : Int) < (out.length : Int)) := by omega
      go_wp2_with fail
      go_ret2
      exact dplPost_mk (by rw [hX.out, HPE.out]) hO.out hW.out hP.out
end Go.Proofs.YtenoaonlngndpaaDoor

/- The document's Wants. -/
namespace Go.Proofs.YtenoaonlngndpaaDoor
set_option linter.unusedVariables false
set_option linter.unusedSimpArgs false
open Go.RowKit Go.Maps Pl Go.Shelf

abbrev S2w (X : World) (b12 g o : Nat) (vf : Value) (f : ByteArray) (gp q : Nat) (tp : ByteArray) : Prop := X.cell? ⟨b12, 2, none⟩ = some vf ∧ X.cell? ⟨g, o, none⟩ = some (.string f) ∧ X.cell? ⟨gp, q + 1, none⟩ = some (.string tp)
theorem s2w_below {X X' : World} {b12 g o gp q : Nat} {vf : Value} {f tp : ByteArray} (h : S2w X b12 g o vf f gp q tp) (m : Below X.heap.size X X') (h1 : b12 < X.heap.size) (h2 : g < X.heap.size) (h3 : gp < X.heap.size) : S2w X' b12 g o vf f gp q tp :=
  ⟨(m.cell (p := ⟨b12, 2, none⟩) h1).trans h.1, (m.cell (p := ⟨g, o, none⟩) h2).trans h.2.1, (m.cell (p := ⟨gp, q + 1, none⟩) h3).trans h.2.2⟩
theorem any_take_go {α : Type} {p : α → Bool} {l : List α} {k : Nat} (h : (l.take k).any p = false) (hk : l.length ≤ k) : l.any p = false := by rwa [List.take_of_length_le hk] at h
theorem wantAt_rep {K : Kb} {E : List Ent} (h : Rep K E) (p : Plc) : wantAt K p = (!(ofE E p.br).isSome || ((ofE E p.br).getD zEnt).1.fs.any fun f => mtB f p.tp) := by
  unfold wantAt
  rw [h p.br]
  cases ofE E p.br <;> rfl
set_option maxHeartbeats 8000000 in
set_option maxRecDepth 100000 in
theorem dwants_any (B bp : Nat) (E : List Ent) (K : Kb) (at' h : Int) (name : ByteArray) (w : World) (hD : DbAt B bp E w) (hR : Rep K E) (hok : KbOk K) (hE : E.length ≤ 1000) (ha0 : -9223372036854775808 ≤ at') (ha1 : at' ≤ 9223372036854775807) (hh0 : -9223372036854775808 ≤ h) (hh1 : h ≤ 9223372036854775807) (hn : name.size ≤ 140737488351232) :
    Calls Tryd.prog 12 #[.pointer (some ⟨bp, 0, none⟩), .int .i64 at', .string name, .int .i64 h] w fun e w' => e = .returned (.bool (wants K at' name h)) ∧ Below w.heap.size w w' := by
  have CP := Lib.hid (dplaces_any B bp E K at' h name w hD hR hok hE ha0 ha1 hh0 hh1 hn)
  have HD := Lib.hid hD
  have HR := Lib.hid hR
  have HOK := Lib.hid hok
  unfold wants
  obtain ⟨R, hRR⟩ : ∃ R, places K at' name h = R := ⟨_, rfl⟩
  rw [hRR] at CP ⊢
  obtain ⟨out, all⟩ := R
  simp only
  clear hD hR hok hRR
  go_enter Tryd.func12, Tryd.ntmps12
  go_wp2_with fail
  refine CP.out.mono ?_
  rintro e w1 ⟨v, H, rfl, ho, b1, hP⟩
  simp only at ho hP ⊢
  obtain ⟨ao, cap, rfl, q1, q2, -⟩ := ho.form
  unfold maxLen at q2
  have HO := Lib.hid ho
  have HB := Lib.hid b1
  have HP := Lib.hid hP
  have hol := hP.1
  clear ho b1 hP CP
  cases all
  · go_wp2_with fail
    go_ret
    exact ⟨rfl, HB.out⟩
  go_wp2_with fail
  go_loopw [11] (fun i wr => ∃ (k : Nat), i = .int .i64 k ∧ k ≤ out.length ∧ Hid ((out.take k).any (wantAt K) = false) ∧ Hid (Below w1.heap.size w1 wr)) (fun i _ => out.length - (intOf i).toNat)
  case atStart => exact ⟨0, rfl, Nat.zero_le _, Lib.hid rfl, Lib.hid (Below.refl _ _)⟩
  case round =>
    obtain ⟨k, rfl, hk, hN, hW⟩ := hrel
    by_cases hlt : k < out.length
    · have hkM : (k : Int) < (out.length : Int) := by omega
      obtain ⟨p, hp⟩ : ∃ y, out[k]? = some y := ⟨_, List.getElem?_eq_getElem (by omega)⟩
      obtain ⟨gp, o, rfl, -, hgp, m0, m1, m2⟩ := dpl_cells (HO.out.below hW.out) hp
      have hpb := HP.out.2 p (List.mem_of_getElem? hp)
      have HPP := Lib.hid hp
      have HWW := Lib.hid (HB.out.trans (hW.out.mono HB.out.size))
      have CO := Lib.hid (dof_any B bp E p.br wr (HD.out.below HWW.out) hE)
      have HAD := Lib.hid (db_ent (HD.out.below HWW.out) p.br)
      have hwa := wantAt_rep HR.out p
      have HM1 := Lib.hid m1
      have hgpw : gp < wr.heap.size := hgp
      clear hp m1 m2 hgp
      go_wp2_with fail
      refine CO.out.mono ?_
      rintro e w2 ⟨rfl, b2⟩
      obtain ⟨en, hen⟩ : ∃ y, (ofE E p.br).getD zEnt = y := ⟨_, rfl⟩
      obtain ⟨is, his⟩ : ∃ y, (ofE E p.br).isSome = y := ⟨_, rfl⟩
      rw [hen] at HAD
      rw [hen, his] at hwa
      rw [hen, his]
      have hft : en.1.fits := by
        rw [← hen]
        have := (HOK.out.fits p.br)
        rw [HR.out p.br] at this
        cases hO : ofE E p.br with
        | none => rw [hO] at this; exact this
        | some y => rw [hO] at this; exact this
      obtain ⟨a, vf, vl⟩ := en
      simp only at HAD hwa hft ⊢
      have had := HAD.out.below b2
      obtain ⟨af, cf, rfl, z1, z2, -⟩ := had.fs.form
      obtain ⟨al, cl, rfl, -, -, -⟩ := had.ls.form
      unfold maxLen at z2
      unfold entA
      simp only
      have bX := (Below.refl w2.heap.size w2).alloc (Nat.le_refl _) (.cells #[.int .i64 a.owner, .int .i64 a.version, .slice af a.fs.length cf, .slice al a.ls.length cl] 69)
      have kX := blk_at w2 #[.int .i64 a.owner, .int .i64 a.version, .slice af a.fs.length cf, .slice al a.ls.length cl] 69 rfl
      obtain ⟨X, hX⟩ : ∃ X, w2.alloc (.cells #[.int .i64 a.owner, .int .i64 a.version, .slice af a.fs.length cf, .slice al a.ls.length cl] 69) = X := ⟨_, rfl⟩
      rw [hX] at bX kX
      have HXB := Lib.hid (b2.trans (bX.mono b2.size))
      have HW2 := Lib.hid (hW.out.trans (HXB.out.mono hW.out.size))
      have HAX := Lib.hid (had.below bX)
      have HKX := Lib.hid kX
      have x2 := kX.cell 2
      simp only [List.getElem?_toArray, List.getElem?_cons_zero, List.getElem?_cons_succ] at x2
      have HFT := Lib.hid hft
      have hnf := hft.nf
      have HWA := Lib.hid hwa
      have hgx : gp < X.heap.size := Nat.lt_of_lt_of_le hgpw HXB.out.size
      have hbx : w2.heap.size < X.heap.size := kX.lt
      have HM2 := Lib.hid ((HXB.out.cell (p := ⟨gp, o + k * 3 + 1, none⟩) hgpw).trans HM1.out)
      clear bX kX had hft hwa b2 CO m0 HM1 hen his
      cases is
      · have HF := Lib.hid (show out.any (wantAt K) = true from any_get HPP.out (by rw [HWA.out]; rfl))
        go_wp2_with fail
        go_ret
        exact ⟨ret_bool (by rw [HF.out]; rfl), HB.out.trans (HW2.out.mono HB.out.size)⟩
      go_wp2_with fail
      clear hX x2
      go_loopw [14, 15] (fun j c wr => ∃ (m : Nat), j = .int .i64 m ∧ m ≤ a.fs.length ∧ Hid ((a.fs.take m).any (fun f => mtB f p.tp) = false) ∧ Hid (Below X.heap.size X wr)) (fun j _ _ => a.fs.length - (intOf j).toNat)
      case atStart => exact ⟨0, rfl, Nat.zero_le _, Lib.hid rfl, Lib.hid (Below.refl _ _)⟩
      case round =>
        obtain ⟨m, rfl, hm, hA, hV⟩ := hrel
        have y2 := (HKX.out.of_below hV.out).cell 2
        simp only [List.getElem?_toArray, List.getElem?_cons_zero, List.getElem?_cons_succ] at y2
        by_cases hml : m < a.fs.length
        · have hmM : (m : Int) < (a.fs.length : Int) := by omega
          obtain ⟨f, hf⟩ : ∃ f, a.fs[m]? = some f := ⟨_, List.getElem?_eq_getElem (by omega)⟩
          obtain ⟨g, o', rfl, hg, m0⟩ := dstr_cell HAX.out.fs hf
          have m0 := (hV.out.cell (p := ⟨g, o' + m, none⟩) hg).trans m0
          have m3 := (hV.out.cell (p := ⟨gp, o + k * 3 + 1, none⟩) hgx).trans HM2.out
          have hfz := HFT.out.fs f (List.mem_of_getElem? hf)
          have s0 : S2w wr w2.heap.size g (o' + m) (.slice (some ⟨g, o', none⟩) a.fs.length cf) f gp (o + k * 3) p.tp := ⟨y2, m0, m3⟩
          have hgv : g < wr.heap.size := Nat.lt_of_lt_of_le hg hV.out.size
          have hgpv : gp < wr.heap.size := Nat.lt_of_lt_of_le hgx hV.out.size
          have hbv : w2.heap.size < wr.heap.size := Nat.lt_of_lt_of_le hbx hV.out.size
          have sd : S2w wr.drew w2.heap.size g (o' + m) (.slice (some ⟨g, o', none⟩) a.fs.length cf) f gp (o + k * 3) p.tp := s2w_below s0 (Below.refl _ _).drew hbv hgv hgpv
          obtain ⟨c, hc⟩ : ∃ c, mtB f p.tp = c := ⟨_, rfl⟩
          have CM : ∀ Z, Calls Tryd.prog 29 #[.string f, .string p.tp] Z fun e w' => e = .returned (.bool c) ∧ Below Z.heap.size Z w' := fun Z => by rw [← hc]; exact refmatch_any f p.tp Z (by omega) (by have := hpb.2.2.1; omega)
          have CM := Lib.hid CM
          have HF := Lib.hid hf
          have HC := Lib.hid hc
          clear y2 m0 m3 hg hf hc
          go_wp2_with fail
          go_region_held3 (fun Z => S2w Z w2.heap.size g (o' + m) (.slice (some ⟨g, o', none⟩) a.fs.length cf) f gp (o + k * 3) p.tp) (first | (with_reducible assumption)) (first | (go_at_call 29; (with_reducible refine (CM.out _).mono ?_); rintro e xa ⟨rfl, ya⟩; have ra : S2w xa w2.heap.size g (o' + m) (.slice (some ⟨g, o', none⟩) a.fs.length cf) f gp (o + k * 3) p.tp := s2w_below (by with_reducible assumption) ya hbv hgv hgpv; have RA := Lib.hid ((Below.refl wr.heap.size wr).drew.trans ya)) | (fail))
          all_goals clear s0 sd
          all_goals
            have hVA := Lib.hid (hV.out.trans (RA.out.mono hV.out.size))
            cases c
            · have HA2 := Lib.hid (any_take_false hA.out HF.out (p := fun f => mtB f p.tp) HC.out)
              go_wp2_with fail
              go_roundw
              case rel => exact ⟨m + 1, by go_num, by omega, HA2, hVA⟩
              case measure => simp [intOf] <;> omega
            · have HF2 := Lib.hid (show out.any (wantAt K) = true from any_get HPP.out (by rw [HWA.out, any_get HF.out (p := fun f => mtB f p.tp) HC.out]; rfl))
              go_wp2_with fail
              go_ret
              exact ⟨ret_bool (by rw [HF2.out]; rfl), HB.out.trans ((HW2.out.trans (hVA.out.mono HW2.out.size)).mono HB.out.size)⟩
        · obtain rfl : m = a.fs.length := by omega
          have HF := Lib.hid (any_take_false hN.out HPP.out (p := wantAt K) (by rw [HWA.out, any_take_go hA.out (Nat.le_refl _)]; rfl))
          have hnl : ¬ ((a.fs.length : Int) < (a.fs.length : Int)) := by omega
          have hXV := Lib.hid (HW2.out.trans (hV.out.mono HW2.out.size))
          go_wp2_with fail
          go_roundw
          case rel => exact ⟨k + 1, by go_num, by omega, HF, hXV⟩
          case measure => simp [intOf] <;> omega
    · obtain rfl : k = out.length := by omega
      have HF := Lib.hid (any_take_go hN.out (Nat.le_refl _))
      have hnl : ¬ ((out.length : Int) < (out.length : Int)) := by omega
      go_wp2_with fail
      go_ret
      exact ⟨ret_bool (by rw [HF.out]), HB.out.trans (hW.out.mono HB.out.size)⟩
end Go.Proofs.YtenoaonlngndpaaDoor

/- Places come to: a map by broker, topic and hops. -/
namespace Go.Proofs.YtenoaonlngndpaaDoor
set_option linter.unusedVariables false
set_option linter.unusedSimpArgs false
open Go.RowKit Go.Maps Pl

def plV (p : Plc) : Value := .agg #[.int .i64 p.br, .string p.tp, .int .i64 p.hp]
def plL (p : Plc) : Lit := .string (keyBytes [.int .i64 p.br, .string p.tp.data.toList, .int .i64 p.hp])
def PlW (p : Plc) : Prop := (Lit.int .i64 p.br).wf = true ∧ p.tp.size ≤ maxLen ∧ (Lit.int .i64 p.hp).wf = true
theorem plm_row : (37 : TypeId) < Tryd.prog.types.size := of_decide_eq_true (by kernel_rfl)
theorem plm_wide : (match Tryd.prog.underlying 37 with | some (.array _ _) | some (.struct _) => true | _ => false) = true := by rw [Tryd.underlying37]
theorem plm_kt : Tryd.prog.keyTypeAt 3 37 = true := by kernel_rfl
set_option maxRecDepth 100000 in
theorem plm_klaw : WideMaps.KeyLaw Tryd.prog 37 := deep_law_laid spot_laid (m := 3) (by decide) plm_row plm_kt plm_wide
theorem plm_law : Keyed Tryd.prog 37 := Keyed.of_law plm_klaw
theorem plm_type : Tryd.prog.keyType 37 = true := by kernel_rfl
theorem plm_cells : Tryd.prog.cellsOf 37 = 3 := by kernel_rfl
theorem plm_key {p : Plc} (h : PlW p) : keyOf Tryd.prog 37 (plV p) = some (plL p) := by
  obtain ⟨hb, ht, hh⟩ := h
  have hu := Tryd.underlying37
  have hf : (plV p).formed Tryd.prog 37 = true := by
    unfold plV
    simp [Value.formed, hu, plm_cells]
  obtain ⟨m, hm⟩ := spot_size
  unfold keyOf
  rw [hu]
  simp only [plm_type, hf, Bool.and_self, if_true, hm]
  simp [plV, plL, Value.cells, Program.keyLits, hu, plm_cells, int_cells, str_cells, Tryd.underlying3, Tryd.underlying9, hb, ht, hh]
theorem plm_inj {p q : Plc} (hp : PlW p) (hq : PlW q) (h : plL p = plL q) : p = q := by
  have h1 := plm_law.inj (plm_key hp) (by rw [h]; exact plm_key hq)
  obtain ⟨a, b, c⟩ := p
  obtain ⟨a', b', c'⟩ := q
  unfold plV at h1
  simp at h1
  obtain ⟨rfl, rfl, rfl⟩ := h1
  rfl
def inP (out : List Plc) (q : Plc) : Bool := out.any fun y => decide (y.br = q.br) && (decide (y.tp = q.tp) && decide (y.hp = q.hp))
theorem inP_true {out : List Plc} {q : Plc} (h : q ∈ out) : inP out q = true := by
  unfold inP
  rw [List.any_eq_true]
  exact ⟨q, h, by simp⟩
theorem inP_snoc (out : List Plc) (p q : Plc) : inP (out ++ [p]) q = (inP out q || (decide (p.br = q.br) && (decide (p.tp = q.tp) && decide (p.hp = q.hp)))) := by
  unfold inP
  rw [List.any_append]
  simp
/-- The map holds what is in 'out'. -/
def PlmAt (mb : Nat) (out : List Plc) (n : Nat) (w : World) : Prop := ∃ D : DataW Unit, w.ownsMap Tryd.prog 37 (plainElem Tryd.prog 4) mb n D ∧
  ∀ q : Plc, PlW q → D.atKey (plL q) (.lit (.bool false)) = .lit (.bool (inP out q))
theorem PlmAt.new (w : World) : PlmAt w.heap.size [] 0 (w.alloc (.map #[] 0)) := ⟨.map [], World.ownsMap_made _ _ _ _, fun q _ => rfl⟩
theorem PlmAt.lt {mb n : Nat} {out : List Plc} {w : World} (h : PlmAt mb out n w) : mb < w.heap.size := by obtain ⟨D, h1, _⟩ := h; exact h1.lt
theorem PlmAt.same {mb n : Nat} {out : List Plc} {w w' : World} (h : PlmAt mb out n w) (hs : w'.heap[mb]? = w.heap[mb]?) : PlmAt mb out n w' := by
  obtain ⟨D, ⟨es, clock, hb, r⟩, r2⟩ := h
  exact ⟨D, ⟨es, clock, hs.trans hb, r⟩, r2⟩
theorem PlmAt.below {mb n : Nat} {out : List Plc} {w w' : World} (h : PlmAt mb out n w) (m : Below w.heap.size w w') : PlmAt mb out n w' := h.same (m.block mb h.lt)
theorem PlmAt.obj {mb n : Nat} {out : List Plc} {w : World} (h : PlmAt mb out n w) : ∃ es clock, w.heap[mb]? = some (.map es clock) := by
  obtain ⟨D, ⟨es, clock, hb, r⟩, r2⟩ := h
  exact ⟨es, clock, hb⟩
theorem PlmAt.look {mb n : Nat} {out : List Plc} {w : World} (h : PlmAt mb out n w) {q : Plc} (hq : PlW q) :
    (Instr.lookup 59 (.map (some mb)) (plV q) false).run Tryd.prog w = .ok (.bool (inP out q)) w := by
  obtain ⟨D, h1, h3⟩ := h
  obtain ⟨v, ps, hr, hv⟩ := h1.lookup plm_law Tryd.underlying59 (zero_bool w) (plainElem_bool Tryd.underlying4 false) (plm_key hq)
  rw [h3 q hq] at hv
  rw [elem_bool_inv hv] at hr
  exact hr
theorem PlmAt.store {mb n : Nat} {out : List Plc} {w : World} (h : PlmAt mb out n w) (p : Plc) (hp : PlW p) (hn : n < maxLen) :
    ∃ w', (Instr.mapUpdate 59 (.map (some mb)) (plV p) (.bool true)).run Tryd.prog w = .ok () w' ∧ PlmAt mb (out ++ [p]) (n + 1) w' ∧ w.grownBy w' (some mb) := by
  obtain ⟨D, h1, h3⟩ := h
  have hk : WideAt.IsKeyLit (plL p) := trivial
  obtain ⟨w', hr, q1, q2⟩ := h1.update plm_law Tryd.underlying59 hn (plm_key hp) (plainElem_bool Tryd.underlying4 true)
  refine ⟨w', hr, ⟨D.put (plL p) (.lit (.bool true)), q1, fun q hq => ?_⟩, q2⟩
  rw [inP_snoc]
  by_cases e : p = q
  · subst e
    rw [atKey_put_same h1.isMap hk]
    simp
  · have hne : plL q ≠ plL p := fun c => e (plm_inj hq hp c).symm
    rw [atKey_put_other hne, h3 q hq]
    have : (decide (p.br = q.br) && (decide (p.tp = q.tp) && decide (p.hp = q.hp))) = false := by
      rw [← Bool.not_eq_true]
      simp only [Bool.and_eq_true, decide_eq_true_eq]
      rintro ⟨a, b, c⟩
      apply e
      obtain ⟨p1, p2, p3⟩ := p
      obtain ⟨q1, q2, q3⟩ := q
      simp only at a b c
      subst a b c
      rfl
    rw [this, Bool.or_false]
theorem PlmAt.no_row {mb n m size B : Nat} {out : List Plc} {w : World} {e : TypeId} {v : Value} {xs : List Value} (h : PlmAt mb out n w) (hs : Sl B w e size v m xs) : v.ownBlock ≠ some mb := by
  intro c
  obtain ⟨es, ck, ho⟩ := h.obj
  obtain ⟨cur, e1⟩ := hs.obj _ _ c ho
  cases e1
/-! ### the law, plain -/
/-- Does a rule of a place lead to another place? -/
def leads (z y : Plc) (l : Lk) : Bool := (toRem l.rule z.tp).2 && (decide (z.hp + 1 = y.hp) && (decide (l.peer = y.br) && decide ((toRem l.rule z.tp).1 = y.tp)))
def ledBy (K : Kb) (P : List Plc) (k : Nat) (y : Plc) : Bool := (P.take k).any fun z => (lks K z.br).any (leads z y)
theorem ledBy_succ {K : Kb} {P : List Plc} {k : Nat} {z y : Plc} (h : P[k]? = some z) : ledBy K P (k + 1) y = (ledBy K P k y || (lks K z.br).any (leads z y)) := by
  unfold ledBy
  rw [List.take_add_one, h]
  simp
theorem led_src {K : Kb} {at' : Int} {name : ByteArray} {h : Int} {P : List Plc} (H : PInv K at' name h P) {k : Nat} {y : Plc} (hk : 0 < k) (hy : P[k]? = some y) : ledBy K P k y = true := by
  obtain ⟨j, z, h1, h2, l, hl, h3, h4, h5, h6⟩ := H.src k y hk hy
  unfold ledBy
  rw [List.any_eq_true]
  refine ⟨z, List.mem_of_getElem? (i := j) (by rw [List.getElem?_take, if_pos h1]; exact h2), ?_⟩
  rw [List.any_eq_true]
  refine ⟨l, hl, ?_⟩
  unfold leads
  simp [h3, h4, h5, h6]
end Go.Proofs.YtenoaonlngndpaaDoor
