/- What a row of rules makes of a topic; the walks of both Compose, of the document's less and Route. -/
import Derived.Test.YtdjiioidkgppjaaDoorRoute
import Derived.Test.YtdjiioidkgppjaaDoorRemapBackP
import Derived.OwnWalk
namespace Go.Proofs.YtdjiioidkgppjaaDoor
set_option linter.unusedVariables false
open Go.RowKit Pl Go.Shelf

def cmpK (L : List Rl) (N : ByteArray) (q : Int) : Nat → Option (ByteArray × Int)
  | 0 => if nameB N then some (N, q) else none
  | k + 1 => match cmpK L N q k with
    | none => none
    | some (x, p) => match L[k]? with
      | some r => if (toRem r x).2 then some ((toRem r x).1, min p r.qos) else none
      | none => none
theorem cmp_go {L : List Rl} {N : ByteArray} {q p : Int} {k : Nat} {r : Rl} {x y : ByteArray} {b : Bool} (h : cmpK L N q k = some (x, p)) (hr : L[k]? = some r) (ht : toRem r x = (y, b)) : cmpK L N q (k + 1) = if b then some (y, min p r.qos) else none := by
  show (match cmpK L N q k with | none => none | some (x, p) => match L[k]? with | some r => if (toRem r x).2 then some ((toRem r x).1, min p r.qos) else none | none => none) = _
  rw [h]
  simp only [hr, ht]
theorem cmp_none {L : List Rl} {N : ByteArray} {q : Int} {k : Nat} (h : cmpK L N q k = none) : ∀ d, cmpK L N q (k + d) = none
  | 0 => h
  | d + 1 => by
    show (match cmpK L N q (k + d) with | none => none | some (x, p) => match L[k + d]? with | some r => if (toRem r x).2 then some ((toRem r x).1, min p r.qos) else none | none => none) = _
    rw [cmp_none h d]
theorem cmp_name {L : List Rl} {N x : ByteArray} {q p : Int} : ∀ {k : Nat}, cmpK L N q k = some (x, p) → nameB x = true
  | 0, h => by
    unfold cmpK at h
    split at h
    · rename_i hN
      injection h with h
      injection h with h1 h2
      rw [← h1]; exact hN
    · cases h
  | k + 1, h => by
    unfold cmpK at h
    split at h
    · cases h
    · split at h
      · rename_i r _
        split at h
        · rename_i hb
          injection h with h
          injection h with h1 h2
          exact name_of_rem (r := r) (x := x) (Prod.ext h1 hb)
        · cases h
      · cases h
theorem rem_bad {r : Rl} {N : ByteArray} (h : nameB N = false) : (toRem r N).2 = false := by
  cases hb : (toRem r N).2
  · rfl
  · have h2 : toRem r N = ((toRem r N).1, true) := Prod.ext rfl hb
    unfold toRem at h2
    split at h2
    · injection h2 with _ h3; cases h3
    · have := (trn_open h2).2.2.2.1
      rw [h] at this; cases this
theorem cmp_bad {L : List Rl} {N : ByteArray} {q : Int} (h : nameB N = false) (k : Nat) : cmpK L N q k = none := by
  have h0 : cmpK L N q 0 = none := by unfold cmpK; rw [h]; rfl
  have := cmp_none h0 k
  rwa [Nat.zero_add] at this
/-- The answer as the code gives it. -/
def cmpV : Option (ByteArray × Int) → Value
  | some (x, p) => .tuple #[.string x, .int .i64 p, .bool true]
  | none => .tuple #[.string ⟨#[]⟩, .int .i64 0, .bool false]
theorem name_small {x : ByteArray} (h : nameB x = true) : x.size ≤ 140737488351232 := by
  have := (szd_size (name_szd h)).2.1
  omega

set_option maxHeartbeats 2000000 in
theorem compose_any (A : Option Addr) (n cap : Nat) (L : List Rl) (N : ByteArray) (q : Int) (w : World) (hn : L.length = n) (hm : n ≤ 80) (h : RRow w A L) (hz : ∀ r ∈ L, r.fits) (hN : N.size ≤ 140737488351232) (hT : Tabs w) :
    Calls Tryd.prog 16 #[.slice A n cap, .string N, .int .i64 q] w fun e w' => e = .returned (cmpV (cmpK L N q n)) ∧ Below w.heap.size w w' := by
  have H := Lib.hid h
  have HN := Lib.hid hn
  have HZ := Lib.hid hz
  have HT := Lib.hid hT
  obtain ⟨r0, hr0, hr1⟩ : ∃ r : Int, nameC N = r ∧ (r == 0) = nameB N := by
    cases hb : nameB N
    · exact ⟨144, nameC_bad hb, rfl⟩
    · exact ⟨0, nameC_ok hb, rfl⟩
  have C0 := checkname_any N w (by omega) hT
  rw [hr0] at C0
  have C0 := Lib.hid C0
  obtain ⟨ok0, hok0⟩ : ∃ ok, nameB N = ok := ⟨_, rfl⟩
  rw [hok0] at hr1
  have HOK := Lib.hid hok0
  clear h hn hz hT hr0 hok0
  go_enter Tryd.func16, Tryd.ntmps16
  go_wp2_with fail
  refine C0.out.mono ?_
  rintro e w0 ⟨rfl, b0⟩
  go_wp2
  go_loopw [1, 2, 9, 17] (fun nv qv ov i wr => ∃ (k : Nat) (x : ByteArray) (p : Int) (ok : Bool), i = .int .i64 k ∧ k ≤ n ∧ nv = .string x ∧ qv = .int .i64 p ∧ ov = .bool ok ∧ Hid ((ok = true ∧ cmpK L N q k = some (x, p)) ∨ (ok = false ∧ k = 0 ∧ x = N ∧ nameB N = false)) ∧ Hid (Below w0.heap.size w0 wr)) (fun _ _ _ i _ => n - (intOf i).toNat)
  case atStart =>
    refine ⟨0, N, q, ok0, rfl, by omega, rfl, rfl, rfl, Lib.hid ?_, Lib.hid (Below.refl _ _)⟩
    cases hb : ok0
    · exact .inr ⟨rfl, rfl, rfl, by rw [HOK.out, hb]⟩
    · exact .inl ⟨rfl, by unfold cmpK; rw [HOK.out, hb]; rfl⟩
  case round =>
    obtain ⟨k, x, p, ok, rfl, hk, rfl, rfl, rfl, hst, hb⟩ := hrel
    have hbel := b0.trans (hb.out.mono b0.size)
    by_cases hlt : k < n
    · obtain ⟨b, o, rfl, hl, hc⟩ := (H.out.below hbel) (by rw [HN.out]; omega)
      obtain ⟨r, hr⟩ : ∃ x, L[k]? = some x := ⟨_, List.getElem?_eq_getElem (by rw [HN.out]; exact hlt)⟩
      obtain ⟨e1, e2, e3, e4, e5⟩ := hc k r hr
      have hpf := HZ.out r (List.mem_of_getElem? hr)
      have hxs : x.size ≤ 140737488351232 := by
        rcases hst.out with ⟨_, hs⟩ | ⟨_, _, hs, _⟩
        · exact name_small (cmp_name hs)
        · rw [hs]; exact hN
      obtain ⟨y, c, hyc⟩ : ∃ y c, toRem r x = (y, c) := ⟨_, _, rfl⟩
      have hS5 : S5r (wr.alloc (.cells (ruC r) 26)) wr.heap.size r := s5r_new
      have hB0 : Below wr.heap.size wr (wr.alloc (.cells (ruC r) 26)) := (Below.refl _ _).alloc (Nat.le_refl _) _
      have hzY : wr.heap.size < (wr.alloc (.cells (ruC r) 26)).heap.size := by simp
      have CT := toremote_any r x (wr.alloc (.cells (ruC r) 26)) hpf hxs ((HT.out.below hbel).below hB0)
      rw [hyc] at CT
      unfold ruV at CT
      obtain ⟨Y, hY⟩ : ∃ Y, wr.alloc (.cells (ruC r) 26) = Y := ⟨_, rfl⟩
      rw [hY] at hS5 hB0 CT hzY
      have CT := Lib.hid CT
      have HY := Lib.hid hY
      have HR := Lib.hid hr
      have HYC := Lib.hid hyc
      unfold ruC at HY
      have hkn : (k : Int) < (n : Int) := by omega
      clear hc hr hyc hY hpf
      go_wp2_with fail
      rw [HY.out]
      refine CT.out.mono ?_
      rintro e w1 ⟨rfl, b1⟩
      have hb1 := Lib.hid (hb.out.trans ((hB0.trans (b1.mono hB0.size)).mono hb.out.size))
      have hc2 : w1.cell? ⟨wr.heap.size, 2, none⟩ = some (.int .i64 r.qos) := (b1.cell (p := ⟨wr.heap.size, 2, none⟩) hzY).trans hS5.2.2.1
      clear hS5 hB0 b1 e1 e2 e3 e4 e5 hzY
      cases c
      · have hR : Hid (cmpK L N q n = none) := Lib.hid (by
          rcases hst.out with ⟨_, hs⟩ | ⟨_, _, _, hs⟩
          · have h1 := cmp_go hs HR.out HYC.out
            have h2 := cmp_none h1 (n - (k + 1))
            rwa [show k + 1 + (n - (k + 1)) = n from by omega] at h2
          · exact cmp_bad hs n)
        go_wp2
        go_ret3
        exact ⟨by rw [hR.out]; rfl, b0.trans (hb1.out.mono b0.size)⟩
      · have hS : Hid (cmpK L N q (k + 1) = some (y, min p r.qos)) := Lib.hid (by
          rcases hst.out with ⟨_, hs⟩ | ⟨_, _, hs, hs2⟩
          · exact cmp_go hs HR.out HYC.out
          · have := rem_bad (r := r) hs2
            rw [← hs, HYC.out] at this
            cases this)
        go_wp2
        go_roundw
        case rel => exact ⟨k + 1, y, min p r.qos, true, by go_num, by omega, rfl, rfl, rfl, Lib.hid (.inl ⟨rfl, hS.out⟩), hb1⟩
        case measure => simp [intOf]; omega
    · have hkn : k = n := by omega
      subst hkn
      cases ok
      · have hR : Hid (cmpK L N q k = none) := Lib.hid (by
          rcases hst.out with ⟨h1, _⟩ | ⟨_, _, _, hs⟩
          · cases h1
          · exact cmp_bad hs k)
        go_wp2
        go_ret3
        exact ⟨by rw [hR.out]; rfl, hbel⟩
      · have hR : Hid (cmpK L N q k = some (x, p)) := Lib.hid (by
          rcases hst.out with ⟨_, hs⟩ | ⟨h1, _⟩
          · exact hs
          · cases h1)
        go_wp2
        go_ret3
        exact ⟨by rw [hR.out]; rfl, hbel⟩
theorem less_any (a b : Int) (w : World) :
    Calls Tryd.prog 33 #[.int .i64 a, .int .i64 b] w fun e w' => e = .returned (.int .i64 (min a b)) ∧ w' = w := by
  by_cases h : a < b
  · have e : min a b = a := by omega
    rw [e]
    clear e
    go_enter Tryd.func33, Tryd.ntmps33
    go_wp2
    go_ret
    exact ⟨rfl, rfl⟩
  · have e : min a b = b := by omega
    rw [e]
    clear e
    go_enter Tryd.func33, Tryd.ntmps33
    go_wp2
    go_ret
    exact ⟨rfl, rfl⟩
set_option maxHeartbeats 2000000 in
theorem refcompose_any (A : Option Addr) (n cap : Nat) (L : List Rl) (N : ByteArray) (q : Int) (w : World) (hn : L.length = n) (hm : n ≤ 80) (h : RRow w A L) (hz : ∀ r ∈ L, r.fits) (hN : N.size ≤ 140737488351232) :
    Calls Tryd.prog 24 #[.slice A n cap, .string N, .int .i64 q] w fun e w' => e = .returned (cmpV (cmpK L N q n)) ∧ Below w.heap.size w w' := by
  have H := Lib.hid h
  have HN := Lib.hid hn
  have HZ := Lib.hid hz
  have C0 := refcheckname_any N w (by omega)
  cases hb : nameB N
  · have h1 := nameC_bad hb
    rw [h1] at C0
    rw [cmp_bad hb]
    have C0 := Lib.hid C0
    clear h hn hz h1
    go_enter Tryd.func24, Tryd.ntmps24
    go_wp2_with fail
    refine C0.out.mono ?_
    rintro e w0 ⟨rfl, b0⟩
    go_wp2
    go_ret3
    exact ⟨rfl, b0⟩
  · have h1 := nameC_ok hb
    rw [h1] at C0
    have C0 := Lib.hid C0
    have HB := Lib.hid hb
    clear h hn hz h1 hb
    go_enter Tryd.func24, Tryd.ntmps24
    go_wp2_with fail
    refine C0.out.mono ?_
    rintro e w0 ⟨rfl, b0⟩
    go_wp2
    go_loopw [1, 2, 10] (fun nv qv i wr => ∃ (k : Nat) (x : ByteArray) (p : Int), i = .int .i64 k ∧ k ≤ n ∧ nv = .string x ∧ qv = .int .i64 p ∧ Hid (cmpK L N q k = some (x, p)) ∧ Hid (Below w0.heap.size w0 wr)) (fun _ _ i _ => n - (intOf i).toNat)
    case atStart => exact ⟨0, N, q, rfl, by omega, rfl, rfl, Lib.hid (by unfold cmpK; rw [HB.out]; rfl), Lib.hid (Below.refl _ _)⟩
    case round =>
      obtain ⟨k, x, p, rfl, hk, rfl, rfl, hst, hb⟩ := hrel
      have hbel := b0.trans (hb.out.mono b0.size)
      by_cases hlt : k < n
      · obtain ⟨b, o, rfl, hl, hc⟩ := (H.out.below hbel) (by rw [HN.out]; omega)
        obtain ⟨r, hr⟩ : ∃ x, L[k]? = some x := ⟨_, List.getElem?_eq_getElem (by rw [HN.out]; exact hlt)⟩
        obtain ⟨e1, e2, e3, e4, e5⟩ := hc k r hr
        have hpf := HZ.out r (List.mem_of_getElem? hr)
        have hxs : x.size ≤ 140737488351232 := name_small (cmp_name hst.out)
        obtain ⟨y, c, hyc⟩ : ∃ y c, toRem r x = (y, c) := ⟨_, _, rfl⟩
        have CT := reftoremote_any r x wr hpf hxs
        rw [hyc] at CT
        unfold ruV at CT
        have CT := Lib.hid CT
        have HS := Lib.hid (cmp_go hst.out hr hyc)
        have hkn : (k : Int) < (n : Int) := by omega
        clear hc hr hyc hpf
        go_wp2_with fail
        refine CT.out.mono ?_
        rintro e w1 ⟨rfl, b1⟩
        have hb1 := Lib.hid (hb.out.trans (b1.mono hb.out.size))
        have hc2 := (b1.cell (p := ⟨b, o + k * 5 + 2, none⟩) hl).trans e3
        clear b1 e1 e2 e4 e5
        cases c
        · have hR : Hid (cmpK L N q n = none) := Lib.hid (by
            have h2 := cmp_none HS.out (n - (k + 1))
            rwa [show k + 1 + (n - (k + 1)) = n from by omega] at h2)
          go_wp2
          go_ret3
          exact ⟨by rw [hR.out]; rfl, b0.trans (hb1.out.mono b0.size)⟩
        · go_wp2_with fail
          refine (less_any p r.qos _).mono ?_
          rintro e w2 ⟨rfl, rfl⟩
          go_wp2
          go_roundw
          case rel => exact ⟨k + 1, y, min p r.qos, by go_num, by omega, rfl, rfl, HS, hb1⟩
          case measure => simp [intOf]; omega
      · have hkn : k = n := by omega
        subst hkn
        go_wp2
        go_ret3
        exact ⟨by rw [hst.out]; rfl, hbel⟩
theorem info_hop2 : (Tryd.prog.info? 59).map (fun i => (i.zero, i.size, i.bytes)) = some (some (.agg #[.int .i64 0, .string ⟨#[]⟩, .int .i64 0]), 3, 32) := by kernel_rfl
set_option maxHeartbeats 2000000 in
theorem refroute_any (A : Option Addr) (n cap : Nat) (L : List Rl) (N : ByteArray) (q : Int) (w : World) (hn : L.length = n) (hm : n ≤ 80) (h : RRow w A L) (hz : ∀ r ∈ L, r.fits) (hN : N.size ≤ 140737488351232) :
    Calls Tryd.prog 23 #[.slice A n cap, .string N, .int .i64 q] w fun e w' => ∃ v, e = .returned v ∧ w'.ownsRow w.heap.size 59 3 v (rteK L N q n).length (flat3 (rteK L N q n)) ∧ Below w.heap.size w w' := by
  have H := Lib.hid h
  have HN := Lib.hid hn
  have HZ := Lib.hid hz
  obtain ⟨i0, hi, hz0, hz1, hz2⟩ := info_parts info_hop2
  clear h hn hz
  go_enter Tryd.func23, Tryd.ntmps23
  go_wp2
  go_loopw [7, 8] (fun v i wr => ∃ k : Nat, i = .int .i64 k ∧ k ≤ n ∧ wr.ownsRow w.heap.size 59 3 v (rteK L N q k).length (flat3 (rteK L N q k)) ∧ Below w.heap.size w wr) (fun _ i _ => n - (intOf i).toNat)
  case atStart => exact ⟨0, rfl, by omega, World.ownsRow_nil _ _ _ _, Below.refl _ _⟩
  case round =>
    obtain ⟨k, rfl, hk, own, hbel⟩ := hrel
    by_cases hlt : k < n
    · obtain ⟨b, o, rfl, hl, hc⟩ := (H.out.below hbel) (by rw [HN.out]; omega)
      obtain ⟨p, hp⟩ : ∃ x, L[k]? = some x := ⟨_, List.getElem?_eq_getElem (by rw [HN.out]; exact hlt)⟩
      obtain ⟨e1, e2, e3, e4, e5⟩ := hc k p hp
      have hpf := HZ.out p (List.mem_of_getElem? hp)
      obtain ⟨x, y, hxy⟩ : ∃ x y, toRem p N = (x, y) := ⟨_, _, rfl⟩
      have hS := rte_succ (q := q) hp hxy
      have hul := rte_len L N q k
      obtain ⟨R, hR⟩ : ∃ R, rteK L N q k = R := ⟨_, rfl⟩
      rw [hR] at own hS hul
      obtain ⟨m, hm1⟩ : ∃ m, R.length = m := ⟨_, rfl⟩
      rw [hm1] at own hul
      have HM := Lib.hid hm1
      have CT := reftoremote_any p N wr hpf hN
      rw [hxy] at CT
      unfold ruV at CT
      have CT := Lib.hid CT
      have HS := Lib.hid hS
      have hkn : (k : Int) < (n : Int) := by omega
      clear hc hp hR hm1 hxy hS hpf
      go_wp2_with fail
      refine CT.out.mono ?_
      rintro e w1 ⟨rfl, b1⟩
      have own1 := own_below own b1
      have hb1 := hbel.trans (b1.mono hbel.size)
      have hc2 := (b1.cell (p := ⟨b, o + k * 5 + 2, none⟩) hl).trans e3
      clear b1 own e1 e2 e4 e5
      go_wp2_with fail
      refine (less_any q p.qos _).mono ?_
      rintro e w2 ⟨rfl, rfl⟩
      cases y
      · go_wp2
        go_roundw
        case rel => exact ⟨k + 1, by go_num, by omega, by rw [show rteK L N q (k + 1) = R from HS.out.trans (List.append_nil R), HM.out]; exact own1, hb1⟩
        case measure => simp [intOf]; omega
      · go_wp2_with (at_builtin; refine wpList_push3 (.tmp 35) (.tmp 40) 56 59 rfl rfl i0 _ Tryd.underlying56 hi hz0 hz1 hz2 rfl w.heap.size _ m (flat3 R) ⟨k, x, min q p.qos⟩ rfl rfl own1 hb1.size (by omega) ?_; intro v' w5 hown5 hbel5)
        go_roundw
        case rel => exact ⟨k + 1, by go_num, by omega, by rw [show rteK L N q (k + 1) = R ++ [⟨k, x, min q p.qos⟩] from HS.out, List.length_append, flat3_app, flat3_one, HM.out]; exact hown5, hb1.trans hbel5⟩
        case measure => simp [intOf]; omega
    · have hkn : k = n := by omega
      subst hkn
      go_wp2
      go_ret
      exact ⟨_, rfl, own, hbel⟩
end Go.Proofs.YtdjiioidkgppjaaDoor
