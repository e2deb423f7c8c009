/- The walk of the document's Put of properties. -/
import Derived.Test.YtifbkfkieppacaaDoorRefPutV
namespace Go.Proofs.YtifbkfkieppacaaDoor
set_option linter.unusedVariables false
open Go.RowKit Pl

set_option maxRecDepth 100000 in
set_option maxHeartbeats 4000000 in
theorem refpput_any (A : Option Addr) (n cap : Nat) (L : List Pp) (w : World) (hn : L.length = n) (hc : n ≤ cap) (hm : n ≤ 1048576) (h : PRow w A L) (hz : ∀ p ∈ L, p.fits) :
    Calls Tryd.prog 9 #[.slice A n cap] w fun e w' => e = .returned (.tuple #[.string (ppS L), .int .i64 (ppC L)]) ∧ Below w.heap.size w w' := by
  by_cases h64 : 64 < n
  · obtain ⟨e1, e2⟩ := pp_long (L := L) (by omega)
    rw [e1, e2]
    have hI : (64 : Int) < (n : Int) := by omega
    clear e1 e2 h hz hn
    go_enter Tryd.func9, Tryd.ntmps9
    go_wp2
    go_ret2
    exact ⟨rfl, Below.refl _ _⟩
  · have H := Lib.hid h
    have HN := Lib.hid hn
    have HZ := Lib.hid hz
    have hI : (n : Int) ≤ 64 := by omega
    have hcI : (n : Int) ≤ (cap : Int) := by omega
    clear h hn hz
    go_enter Tryd.func9, Tryd.ntmps9
    go_wp2
    go_loopw [4, 5] (fun s i wr => ∃ k : Nat, i = .int .i64 k ∧ k ≤ n ∧ s = .string (putK L k) ∧ Hid (codK L k = 0) ∧ Hid (Below w.heap.size w wr)) (fun _ i _ => n - (intOf i).toNat)
    case atStart => exact ⟨0, rfl, by omega, rfl, Lib.hid rfl, Lib.hid (Below.refl _ _)⟩
    case round =>
      obtain ⟨k, rfl, hk, rfl, hcd, hb⟩ := hrel
      have hs3 := put_small L k
      obtain ⟨M, hM⟩ : ∃ M, putK L k = M := ⟨_, rfl⟩
      rw [hM] at hs3 ⊢
      have HM := Lib.hid hM
      clear hM
      by_cases hlt : k < n
      · obtain ⟨b, o, rfl, hl, hcl⟩ := (H.out.below hb.out) (by rw [HN.out]; omega)
        obtain ⟨p, hp⟩ : ∃ p, L[k]? = some p := ⟨_, List.getElem?_eq_getElem (by rw [HN.out]; omega)⟩
        obtain ⟨c0, c1, c2, c3⟩ := hcl k p hp
        have hfit := HZ.out p (List.mem_of_getElem? hp)
        have hkI : (k : Int) < (n : Int) := by omega
        have hkc : (k : Int) ≤ (cap : Int) := by omega
        have HP := Lib.hid hp
        have HF := Lib.hid hfit
        clear hcl hp hfit
        obtain ⟨kd, hkd⟩ : ∃ kd, kindOf p.id = kd := ⟨_, rfl⟩
        have CK : ∀ X : World, Calls Tryd.prog 21 #[.int .i64 p.id] X fun e w' => e = .returned (.int .i64 kd) ∧ Below X.heap.size X w' := fun X => by rw [← hkd]; exact refkind_any p.id X
        have CK := Lib.hid CK
        have HKD := Lib.hid hkd
        clear hkd
        by_cases h0 : kd = 0
        · subst h0
          have HR : Hid (codK L n = 129) := Lib.hid (cod_last (n := n) ((cod_succ HP.out hcd.out).trans (by unfold stp; rw [if_pos HKD.out])) (by decide) hlt)
          go_wp2_with fail
          refine (CK.out _).mono ?_
          rintro e w1 ⟨rfl, b1⟩
          go_wp2
          go_ret2
          obtain ⟨q1, q2⟩ := pp_bad (L := L) (c := 129) (by rw [HN.out]; exact h64) (by rw [HN.out]; exact HR.out) (by decide)
          exact ⟨by rw [q1, q2]; rfl, hb.out.trans (b1.mono hb.out.size)⟩
        · have e0 : (kd == 0) = false := by rw [beq_eq_false_iff_ne]; exact h0
          go_wp2_with fail
          refine (CK.out _).mono ?_
          rintro e w1 ⟨rfl, b1⟩
          have hb1 := Lib.hid (hb.out.trans (b1.mono hb.out.size))
          have d0 := (b1.cell (p := ⟨b, o + k * 4, none⟩) hl).trans c0
          have d1 := (b1.cell (p := ⟨b, o + k * 4 + 1, none⟩) hl).trans c1
          have d2 := (b1.cell (p := ⟨b, o + k * 4 + 2, none⟩) hl).trans c2
          have d3 := (b1.cell (p := ⟨b, o + k * 4 + 3, none⟩) hl).trans c3
          have hl1 := Nat.lt_of_lt_of_le hl b1.size
          clear b1 c0 c1 c2 c3
          have CT := twice_any (some ⟨b, o, none⟩) n cap k L p.id w1 HN.out (by omega) (by omega) (H.out.below hb1.out)
          obtain ⟨dp, hdp⟩ : ∃ dp, dup L k p.id = dp := ⟨_, rfl⟩
          rw [hdp] at CT
          have CT := Lib.hid CT
          have HDP := Lib.hid hdp
          clear hdp
          cases dp
          · go_wp2_with fail
            refine CT.out.mono ?_
            rintro e w2 ⟨rfl, rfl⟩
            obtain ⟨cd, hcd2⟩ : ∃ cd, pvC p = cd := ⟨_, rfl⟩
            have CV := refvalue_any p w1 HF.out
            rw [hcd2] at CV
            have HCD := Lib.hid hcd2
            have HSZ := Lib.hid (pvS_small p)
            have CV := Lib.hid CV
            clear hcd2
            by_cases hc0 : cd = 0
            · subst hc0
              have hk1 := Lib.hid (put_succ (L := L) (k := k) HP.out)
              have hcd1 : Hid (codK L (k + 1) = 0) := Lib.hid ((cod_succ HP.out hcd.out).trans (by unfold stp; rw [if_neg (by rw [HKD.out]; exact h0), if_neg (by rw [HDP.out]; decide)]; exact HCD.out))
              go_wp2_with fail
              refine CV.out.mono ?_
              rintro e w3 ⟨v, rfl, hv, b3⟩
              obtain rfl : v = pvS p := hv trivial
              have hb3 := Lib.hid (hb1.out.trans (b3.mono hb1.out.size))
              have u0 := (b3.cell (p := ⟨b, o + k * 4, none⟩) hl1).trans d0
              clear b3 hv
              go_wp2_with fail
              refine (refput_all p.id _).mono ?_
              rintro e w4 ⟨rfl, b4⟩
              have hb4 := Lib.hid (hb3.out.trans (b4.mono hb3.out.size))
              have hs1 := HSZ.out
              have hs2 := enc_small p.id
              have hs4 : ((⟨(enc p.id).toArray⟩ : ByteArray)).size ≤ 4 := by show (enc p.id).toArray.size ≤ 4; simpa using hs2
              have hs5 : (M ++ (⟨(enc p.id).toArray⟩ : ByteArray)).size ≤ 8388996 := by rw [ByteArray.size_append]; omega
              clear b4
              go_wp2
              go_roundw
              case rel => exact ⟨k + 1, by go_num, by omega, by rw [hk1.out, HM.out]; exact congrArg Value.string (ByteArray.append_assoc), hcd1, hb4⟩
              case measure => simp [intOf]; omega
            · have e1 : (cd == 0) = false := by rw [beq_eq_false_iff_ne]; exact hc0
              have e2 : (cd != 0) = true := by rw [bne, e1]; rfl
              have HR : Hid (codK L n = cd) := Lib.hid (cod_last (n := n) ((cod_succ HP.out hcd.out).trans (by unfold stp; rw [if_neg (by rw [HKD.out]; exact h0), if_neg (by rw [HDP.out]; decide), HCD.out])) hc0 hlt)
              go_wp2_with fail
              refine CV.out.mono ?_
              rintro e w3 ⟨v, rfl, hv, b3⟩
              go_wp2
              go_ret2
              obtain ⟨q1, q2⟩ := pp_bad (L := L) (c := cd) (by rw [HN.out]; exact h64) (by rw [HN.out]; exact HR.out) hc0
              exact ⟨by rw [q1, q2]; rfl, hb1.out.trans (b3.mono hb1.out.size)⟩
          · have HR : Hid (codK L n = 130) := Lib.hid (cod_last (n := n) ((cod_succ HP.out hcd.out).trans (by unfold stp; rw [if_neg (by rw [HKD.out]; exact h0), if_pos HDP.out])) (by decide) hlt)
            go_wp2_with fail
            refine CT.out.mono ?_
            rintro e w2 ⟨rfl, rfl⟩
            go_wp2
            go_ret2
            obtain ⟨q1, q2⟩ := pp_bad (L := L) (c := 130) (by rw [HN.out]; exact h64) (by rw [HN.out]; exact HR.out) (by decide)
            exact ⟨by rw [q1, q2]; rfl, hb1.out⟩
      · obtain rfl : k = n := by omega
        obtain ⟨q1, q2⟩ := pp_ok (L := L) (by rw [HN.out]; exact h64) (by rw [HN.out]; exact hcd.out)
        rw [HN.out, HM.out] at q2
        obtain ⟨m, hm'⟩ : ∃ m, M.size = m := ⟨_, rfl⟩
        rw [hm'] at q2 hs3
        have CP : ∀ X : World, Calls Tryd.prog 24 #[.int .i64 (m : Int)] X fun e w' => e = .returned (.tuple #[.string ⟨(enc m).toArray⟩, .int .i64 0]) ∧ Below X.heap.size X w' := fun X => by
          have h := refput_all (m : Int) X
          rwa [show putC (m : Int) = 0 from by unfold putC; rw [if_neg (by omega)]] at h
        have CP := Lib.hid CP
        have Q1 := Lib.hid q1
        have Q2 := Lib.hid q2
        have hs4 := enc_small m
        have hs5 : M.size ≤ 8388992 := by omega
        clear q1 q2
        go_wp2_with fail
        refine (CP.out _).mono ?_
        rintro e w2 ⟨rfl, b2⟩
        go_wp2
        go_ret2
        exact ⟨by rw [Q1.out, Q2.out]; rfl, hb.out.trans (b2.mono hb.out.size)⟩
end Go.Proofs.YtifbkfkieppacaaDoor
