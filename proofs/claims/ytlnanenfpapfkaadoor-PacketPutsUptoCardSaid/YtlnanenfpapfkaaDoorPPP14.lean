/- Parts of the proof, joined: RefPutW, Rp1, Rp2. -/
import Derived.Test.YtlnanenfpapfkaaDoorPPP13
import Derived.Test.YtlnanenfpapfkaaDoorPPP4
import Derived.Test.YtlnanenfpapfkaaDoorPPP9
/- The walk of the document's Put of properties. -/
namespace Go.Proofs.YtlnanenfpapfkaaDoor
set_option linter.unusedVariables false
open Go.RowKit Pl

set_option maxRecDepth 100000 in
set_option maxHeartbeats 4000000 in
theorem refpput_any (A : Option Addr) (n cap : Nat) (L : List Pp) (w : World) (hn : L.length = n) (hc : n ≤ cap) (hm : n ≤ 1048576) (h : PRow w A L) (hz : ∀ p ∈ L, p.fits) :
    Calls Tryd.prog 74 #[.slice A n cap] w fun e w' => e = .returned (.tuple #[.string (ppS L), .int .i64 (ppC L)]) ∧ Below w.heap.size w w' := by
  by_cases h64 : 64 < n
  · obtain ⟨e1, e2⟩ := pp_long (L := L) (by omega)
    rw [e1, e2]
    have hI : (64 : Int) < (n : Int) := by omega
    clear e1 e2 h hz hn
    go_enter Tryd.func74, Tryd.ntmps74
    go_wp2
    go_ret2
    exact ⟨rfl, Below.refl _ _⟩
  · have H := Lib.hid h
    have HN := Lib.hid hn
    have HZ := Lib.hid hz
    have hI : (n : Int) ≤ 64 := by omega
    have hcI : (n : Int) ≤ (cap : Int) := by omega
    clear h hn hz
    go_enter Tryd.func74, Tryd.ntmps74
    go_wp2
    go_loopw [4, 5] (fun s i wr => ∃ k : Nat, i = .int .i64 k ∧ k ≤ n ∧ s = .string (putK L k) ∧ Hid (codK L k = 0) ∧ Hid (Below w.heap.size w wr)) (fun _ i _ => n - (intOf i).toNat)
    case atStart => exact ⟨0, rfl, by omega, rfl, Lib.hid rfl, Lib.hid (Below.refl _ _)⟩
    case round =>
      obtain ⟨k, rfl, hk, rfl, hcd, hb⟩ := hrel
      have hs3 := put_small L k
      obtain ⟨M, hM⟩ : ∃ M, putK L k = M := ⟨_, rfl⟩
      rw [hM] at hs3 ⊢
      have HM := Lib.hid hM
      clear hM
      by_cases hlt : k < n
      · obtain ⟨b, o, rfl, hl, hcl⟩ := (H.out.below hb.out) (by rw [HN.out]; omega)
        obtain ⟨p, hp⟩ : ∃ p, L[k]? = some p := ⟨_, List.getElem?_eq_getElem (by rw [HN.out]; omega)⟩
        obtain ⟨c0, c1, c2, c3⟩ := hcl k p hp
        have hfit := HZ.out p (List.mem_of_getElem? hp)
        have hkI : (k : Int) < (n : Int) := by omega
        have hkc : (k : Int) ≤ (cap : Int) := by omega
        have HP := Lib.hid hp
        have HF := Lib.hid hfit
        clear hcl hp hfit
        obtain ⟨kd, hkd⟩ : ∃ kd, kindOf p.id = kd := ⟨_, rfl⟩
        have CK : ∀ X : World, Calls Tryd.prog 93 #[.int .i64 p.id] X fun e w' => e = .returned (.int .i64 kd) ∧ Below X.heap.size X w' := fun X => by rw [← hkd]; exact refkind_any p.id X
        have CK := Lib.hid CK
        have HKD := Lib.hid hkd
        clear hkd
        by_cases h0 : kd = 0
        · subst h0
          have HR : Hid (codK L n = 129) := Lib.hid (cod_last (n := n) ((cod_succ HP.out hcd.out).trans (by unfold stp; rw [if_pos HKD.out])) (by decide) hlt)
          go_wp2_with fail
          refine (CK.out _).mono ?_
          rintro e w1 ⟨rfl, b1⟩
          go_wp2
          go_ret2
          obtain ⟨q1, q2⟩ := pp_bad (L := L) (c := 129) (by rw [HN.out]; exact h64) (by rw [HN.out]; exact HR.out) (by decide)
          exact ⟨by rw [q1, q2]; rfl, hb.out.trans (b1.mono hb.out.size)⟩
        · have e0 : (kd == 0) = false := by rw [beq_eq_false_iff_ne]; exact h0
          go_wp2_with fail
          refine (CK.out _).mono ?_
          rintro e w1 ⟨rfl, b1⟩
          have hb1 := Lib.hid (hb.out.trans (b1.mono hb.out.size))
          have d0 := (b1.cell (p := ⟨b, o + k * 4, none⟩) hl).trans c0
          have d1 := (b1.cell (p := ⟨b, o + k * 4 + 1, none⟩) hl).trans c1
          have d2 := (b1.cell (p := ⟨b, o + k * 4 + 2, none⟩) hl).trans c2
          have d3 := (b1.cell (p := ⟨b, o + k * 4 + 3, none⟩) hl).trans c3
          have hl1 := Nat.lt_of_lt_of_le hl b1.size
          clear b1 c0 c1 c2 c3
          have CT := twice_any (some ⟨b, o, none⟩) n cap k L p.id w1 HN.out (by omega) (by omega) (H.out.below hb1.out)
          obtain ⟨dp, hdp⟩ : ∃ dp, dup L k p.id = dp := ⟨_, rfl⟩
          rw [hdp] at CT
          have CT := Lib.hid CT
          have HDP := Lib.hid hdp
          clear hdp
          cases dp
          · go_wp2_with fail
            refine CT.out.mono ?_
            rintro e w2 ⟨rfl, rfl⟩
            obtain ⟨cd, hcd2⟩ : ∃ cd, pvC p = cd := ⟨_, rfl⟩
            have CV := refvalue_any p w1 HF.out
            rw [hcd2] at CV
            have HCD := Lib.hid hcd2
            have HSZ := Lib.hid (pvS_small p)
            have CV := Lib.hid CV
            clear hcd2
            by_cases hc0 : cd = 0
            · subst hc0
              have hk1 := Lib.hid (put_succ (L := L) (k := k) HP.out)
              have hcd1 : Hid (codK L (k + 1) = 0) := Lib.hid ((cod_succ HP.out hcd.out).trans (by unfold stp; rw [if_neg (by rw [HKD.out]; exact h0), if_neg (by rw [HDP.out]; decide)]; exact HCD.out))
              go_wp2_with fail
              refine CV.out.mono ?_
              rintro e w3 ⟨v, rfl, hv, b3⟩
              obtain rfl : v = pvS p := hv trivial
              have hb3 := Lib.hid (hb1.out.trans (b3.mono hb1.out.size))
              have u0 := (b3.cell (p := ⟨b, o + k * 4, none⟩) hl1).trans d0
              clear b3 hv
              go_wp2_with fail
              refine (refput_all p.id _).mono ?_
              rintro e w4 ⟨rfl, b4⟩
              have hb4 := Lib.hid (hb3.out.trans (b4.mono hb3.out.size))
              have hs1 := HSZ.out
              have hs2 := enc_small p.id
              have hs4 : ((⟨(enc p.id).toArray⟩ : ByteArray)).size ≤ 4 := by show (enc p.id).toArray.size ≤ 4; simpa using hs2
              have hs5 : (M ++ (⟨(enc p.id).toArray⟩ : ByteArray)).size ≤ 8388996 := by rw [ByteArray.size_append]; omega
              clear b4
              go_wp2
              go_roundw
              case rel => exact ⟨k + 1, by go_num, by omega, by rw [hk1.out, HM.out]; exact congrArg Value.string (ByteArray.append_assoc), hcd1, hb4⟩
              case measure => simp [intOf]; omega
            · have e1 : (cd == 0) = false := by rw [beq_eq_false_iff_ne]; exact hc0
              have e2 : (cd != 0) = true := by rw [bne, e1]; rfl
              have HR : Hid (codK L n = cd) := Lib.hid (cod_last (n := n) ((cod_succ HP.out hcd.out).trans (by unfold stp; rw [if_neg (by rw [HKD.out]; exact h0), if_neg (by rw [HDP.out]; decide), HCD.out])) hc0 hlt)
              go_wp2_with fail
              refine CV.out.mono ?_
              rintro e w3 ⟨v, rfl, hv, b3⟩
              go_wp2
              go_ret2
              obtain ⟨q1, q2⟩ := pp_bad (L := L) (c := cd) (by rw [HN.out]; exact h64) (by rw [HN.out]; exact HR.out) hc0
              exact ⟨by rw [q1, q2]; rfl, hb1.out.trans (b3.mono hb1.out.size)⟩
          · have HR : Hid (codK L n = 130) := Lib.hid (cod_last (n := n) ((cod_succ HP.out hcd.out).trans (by unfold stp; rw [if_neg (by rw [HKD.out]; exact h0), if_pos HDP.out])) (by decide) hlt)
            go_wp2_with fail
            refine CT.out.mono ?_
            rintro e w2 ⟨rfl, rfl⟩
            go_wp2
            go_ret2
            obtain ⟨q1, q2⟩ := pp_bad (L := L) (c := 130) (by rw [HN.out]; exact h64) (by rw [HN.out]; exact HR.out) (by decide)
            exact ⟨by rw [q1, q2]; rfl, hb1.out⟩
      · obtain rfl : k = n := by omega
        obtain ⟨q1, q2⟩ := pp_ok (L := L) (by rw [HN.out]; exact h64) (by rw [HN.out]; exact hcd.out)
        rw [HN.out, HM.out] at q2
        obtain ⟨m, hm'⟩ : ∃ m, M.size = m := ⟨_, rfl⟩
        rw [hm'] at q2 hs3
        have CP : ∀ X : World, Calls Tryd.prog 26 #[.int .i64 (m : Int)] X fun e w' => e = .returned (.tuple #[.string ⟨(enc m).toArray⟩, .int .i64 0]) ∧ Below X.heap.size X w' := fun X => by
          have h := refput_all (m : Int) X
          rwa [show putC (m : Int) = 0 from by unfold putC; rw [if_neg (by omega)]] at h
        have CP := Lib.hid CP
        have Q1 := Lib.hid q1
        have Q2 := Lib.hid q2
        have hs4 := enc_small m
        have hs5 : M.size ≤ 8388992 := by omega
        clear q1 q2
        go_wp2_with fail
        refine (CP.out _).mono ?_
        rintro e w2 ⟨rfl, b2⟩
        go_wp2
        go_ret2
        exact ⟨by rw [Q1.out, Q2.out]; rfl, hb.out.trans (b2.mono hb.out.size)⟩
end Go.Proofs.YtlnanenfpapfkaaDoor

/- The walks of the document's parts of a packet: add, number, text, data, id, qos, some, low, bit, props. -/
set_option linter.unusedVariables false
namespace Go.Proofs.YtlnanenfpapfkaaDoor
open Go.RowKit Pl

def otA (o : Ot) : Array Value := #[.string o.s, .int .i64 o.c]
def RPost (o : Ot) (w w' : World) (e : Ending) : Prop := e = .returned (.agg #[.string o.s, .int .i64 o.c]) ∧ Below w.heap.size w w'
/-- The blocks of a part's own: what came in, and the result. -/
structure Rw (w : World) (o r : Ot) (W : World) : Prop where
  below : Below w.heap.size w W
  p : Blk W w.heap.size (otA o) 81
  q : Blk W (w.heap.size + 1) (otA r) 81
theorem Rw.new (w : World) (o : Ot) : Rw w o ⟨⟨#[]⟩, 0⟩ ((w.alloc (.cells #[.string o.s, .int .i64 o.c] 81)).alloc (.cells #[.string ⟨#[]⟩, .int .i64 0] 81)) := by
  have hq := Blk.new (w.alloc (.cells #[.string o.s, .int .i64 o.c] 81)) #[.string ⟨#[]⟩, .int .i64 0] 81
  rw [show (w.alloc (.cells #[.string o.s, .int .i64 o.c] 81)).heap.size = w.heap.size + 1 from by simp] at hq
  exact ⟨((Below.refl _ _).alloc (Nat.le_refl _) _).alloc (by simp) _, (Blk.new w #[.string o.s, .int .i64 o.c] 81).alloc _, hq⟩
theorem Rw.step {w : World} {o r : Ot} {W W' : World} (h : Rw w o r W) (b : Below W.heap.size W W') : Rw w o r W' := ⟨h.below.trans (b.mono h.below.size), h.p.of_below b, h.q.of_below b⟩

set_option maxHeartbeats 2000000 in
theorem refadd_any (o : Ot) (t : ByteArray) (d : Int) (w : World) (hs : o.s.size + t.size ≤ 140737488355328) :
    Calls Tryd.prog 46 #[.agg #[.string o.s, .int .i64 o.c], .string t, .int .i64 d] w fun e w' => RPost (o.add t d) w w' e := by
  have h0 := Rw.new w o
  obtain ⟨W, hW⟩ : ∃ W, (w.alloc (.cells #[.string o.s, .int .i64 o.c] 81)).alloc (.cells #[.string ⟨#[]⟩, .int .i64 0] 81) = W := ⟨_, rfl⟩
  rw [hW] at h0
  have H0 := Lib.hid h0
  have hs2 : o.s.size ≤ 140737488355328 := by omega
  by_cases hc : o.c = 0
  · have p0 : W.cell? ⟨w.heap.size, 0, none⟩ = some (.string o.s) := h0.p.cell 0
    have p1 : W.cell? ⟨w.heap.size, 1, none⟩ = some (.int .i64 o.c) := h0.p.cell 1
    have q0 : W.cell? ⟨w.heap.size + 1, 0, none⟩ = some (.string ⟨#[]⟩) := h0.q.cell 0
    have q1 : W.cell? ⟨w.heap.size + 1, 1, none⟩ = some (.int .i64 0) := h0.q.cell 1
    have g0 := h0.q.frozen 0
    have g1 := h0.q.frozen 1
    have f0 := h0.p.frozen 0
    have f1 := h0.p.frozen 1
    have e : o.add t d = ⟨o.s ++ t, d⟩ := by unfold Ot.add mix; rw [if_pos hc]
    rw [e]
    rw [hc] at p1
    clear h0 hc e
    go_enter Tryd.func46, Tryd.ntmps46
    go_wp2
    refine bodyPost_ret (v := .agg #[.string (⟨o.s ++ t, d⟩ : Ot).s, .int .i64 (⟨o.s ++ t, d⟩ : Ot).c]) (by simp [results, Tryd.results46, go_sem, q0, q1]) rfl ?_
    exact ⟨rfl, ((((H0.out.below.setCell (by simp) _).setCell (by simp) _).setCell (by simp) _).setCell (by simp) _)⟩
  · have p0 : W.cell? ⟨w.heap.size, 0, none⟩ = some (.string o.s) := h0.p.cell 0
    have p1 : W.cell? ⟨w.heap.size, 1, none⟩ = some (.int .i64 o.c) := h0.p.cell 1
    have q0 : W.cell? ⟨w.heap.size + 1, 0, none⟩ = some (.string ⟨#[]⟩) := h0.q.cell 0
    have q1 : W.cell? ⟨w.heap.size + 1, 1, none⟩ = some (.int .i64 0) := h0.q.cell 1
    have g0 := h0.q.frozen 0
    have g1 := h0.q.frozen 1
    have f0 := h0.p.frozen 0
    have f1 := h0.p.frozen 1
    have e : o.add t d = ⟨o.s ++ t, o.c⟩ := by unfold Ot.add mix; rw [if_neg hc]
    rw [e]
    have e0 : (o.c == 0) = false := beq_eq_false_iff_ne.2 hc
    clear h0 hc e
    go_enter Tryd.func46, Tryd.ntmps46
    go_wp2
    refine bodyPost_ret (v := .agg #[.string (⟨o.s ++ t, o.c⟩ : Ot).s, .int .i64 (⟨o.s ++ t, o.c⟩ : Ot).c]) (by simp [results, Tryd.results46, go_sem, q0, q1]) rfl ?_
    exact ⟨rfl, (((H0.out.below.setCell (by simp) _).setCell (by simp) _).setCell (by simp) _)⟩
theorem rf_add (o : Ot) (d : Int) (w : World) (hs : o.s.size ≤ 140737488355328) :
    Calls Tryd.prog 46 #[.agg #[.string o.s, .int .i64 o.c], .string ⟨#[]⟩, .int .i64 d] w fun e w' => RPost (o.fail d) w w' e := by
  rw [← add_empty]; exact refadd_any o ⟨#[]⟩ d w (by show o.s.size + 0 ≤ _; omega)
set_option maxHeartbeats 2000000 in
theorem refnumber_any (o : Ot) (k n : Int) (w : World) (hs : o.s.size ≤ 1099511627776) (hk : k.toNat ≤ 4) :
    Calls Tryd.prog 43 #[.agg #[.string o.s, .int .i64 o.c], .int .i64 k, .int .i64 n] w fun e w' => RPost (wNum k o n) w w' e := by
  have h0 := Rw.new w o
  obtain ⟨W, hW⟩ : ∃ W, (w.alloc (.cells #[.string o.s, .int .i64 o.c] 81)).alloc (.cells #[.string ⟨#[]⟩, .int .i64 0] 81) = W := ⟨_, rfl⟩
  rw [hW] at h0
  have H0 := Lib.hid h0
  have HS : Hid (o.s.size + (⟨(fixS k n).toArray⟩ : ByteArray).size ≤ 140737488355328) := Lib.hid (by have h2 := fixS_len k n; show o.s.size + (fixS k n).toArray.size ≤ _; simp at h2 ⊢; omega)
  clear h0
  go_enter Tryd.func43, Tryd.ntmps43
  go_wp2_with fail
  (with_reducible refine (reffixed_all k n _).mono ?_)
  rintro e w1 ⟨rfl, b1⟩
  have H1 := Lib.hid (H0.out.step b1)
  clear b1
  have p0 : w1.cell? ⟨w.heap.size, 0, none⟩ = some (.string o.s) := H1.out.p.cell 0
  have p1 : w1.cell? ⟨w.heap.size, 1, none⟩ = some (.int .i64 o.c) := H1.out.p.cell 1
  have q0 : w1.cell? ⟨w.heap.size + 1, 0, none⟩ = some (.string ⟨#[]⟩) := H1.out.q.cell 0
  have q1 : w1.cell? ⟨w.heap.size + 1, 1, none⟩ = some (.int .i64 0) := H1.out.q.cell 1
  have g0 := H1.out.q.frozen 0
  have g1 := H1.out.q.frozen 1
  have CA := Lib.hid (refadd_any o ⟨(fixS k n).toArray⟩ (fixC k n) w1 HS.out)
  go_wp2_with fail
  (with_reducible refine CA.out.mono ?_)
  rintro e w2 ⟨rfl, b2⟩
  have H2 := Lib.hid (H1.out.step b2)
  clear b2 p0 p1 q0 q1 g0 g1
  have p0 : w2.cell? ⟨w.heap.size, 0, none⟩ = some (.string o.s) := H2.out.p.cell 0
  have p1 : w2.cell? ⟨w.heap.size, 1, none⟩ = some (.int .i64 o.c) := H2.out.p.cell 1
  have q0 : w2.cell? ⟨w.heap.size + 1, 0, none⟩ = some (.string ⟨#[]⟩) := H2.out.q.cell 0
  have q1 : w2.cell? ⟨w.heap.size + 1, 1, none⟩ = some (.int .i64 0) := H2.out.q.cell 1
  have g0 := H2.out.q.frozen 0
  have g1 := H2.out.q.frozen 1
  clear p0 p1
  go_wp2
  refine bodyPost_ret (v := .agg #[.string (o.add ⟨(fixS k n).toArray⟩ (fixC k n)).s, .int .i64 (o.add ⟨(fixS k n).toArray⟩ (fixC k n)).c]) (by simp [results, Tryd.results43, go_sem, q0, q1]) rfl ?_
  exact ⟨rfl, ((H2.out.below.setCell (by simp) _).setCell (by simp) _)⟩
set_option maxHeartbeats 2000000 in
theorem reftext_any (o : Ot) (t : ByteArray) (w : World) (hs : o.s.size ≤ 1099511627776) (ht : t.size ≤ 140737488351232) :
    Calls Tryd.prog 47 #[.agg #[.string o.s, .int .i64 o.c], .string t] w fun e w' => RPost (wText o t) w w' e := by
  have h0 := Rw.new w o
  obtain ⟨W, hW⟩ : ∃ W, (w.alloc (.cells #[.string o.s, .int .i64 o.c] 81)).alloc (.cells #[.string ⟨#[]⟩, .int .i64 0] 81) = W := ⟨_, rfl⟩
  rw [hW] at h0
  have H0 := Lib.hid h0
  have HS : Hid (o.s.size + (tputS t).size ≤ 140737488355328) := Lib.hid (by have h2 := tputS_small t; omega)
  have HTT := Lib.hid ht
  clear h0
  go_enter Tryd.func47, Tryd.ntmps47
  go_wp2_with fail
  (with_reducible refine (reftput_any t _ HTT.out).mono ?_)
  rintro e w1 ⟨rfl, b1⟩
  have H1 := Lib.hid (H0.out.step b1)
  clear b1
  have p0 : w1.cell? ⟨w.heap.size, 0, none⟩ = some (.string o.s) := H1.out.p.cell 0
  have p1 : w1.cell? ⟨w.heap.size, 1, none⟩ = some (.int .i64 o.c) := H1.out.p.cell 1
  have q0 : w1.cell? ⟨w.heap.size + 1, 0, none⟩ = some (.string ⟨#[]⟩) := H1.out.q.cell 0
  have q1 : w1.cell? ⟨w.heap.size + 1, 1, none⟩ = some (.int .i64 0) := H1.out.q.cell 1
  have g0 := H1.out.q.frozen 0
  have g1 := H1.out.q.frozen 1
  have CA := Lib.hid (refadd_any o (tputS t) (tputC t) w1 HS.out)
  go_wp2_with fail
  (with_reducible refine CA.out.mono ?_)
  rintro e w2 ⟨rfl, b2⟩
  have H2 := Lib.hid (H1.out.step b2)
  clear b2 p0 p1 q0 q1 g0 g1
  have p0 : w2.cell? ⟨w.heap.size, 0, none⟩ = some (.string o.s) := H2.out.p.cell 0
  have p1 : w2.cell? ⟨w.heap.size, 1, none⟩ = some (.int .i64 o.c) := H2.out.p.cell 1
  have q0 : w2.cell? ⟨w.heap.size + 1, 0, none⟩ = some (.string ⟨#[]⟩) := H2.out.q.cell 0
  have q1 : w2.cell? ⟨w.heap.size + 1, 1, none⟩ = some (.int .i64 0) := H2.out.q.cell 1
  have g0 := H2.out.q.frozen 0
  have g1 := H2.out.q.frozen 1
  clear p0 p1
  go_wp2
  refine bodyPost_ret (v := .agg #[.string (o.add (tputS t) (tputC t)).s, .int .i64 (o.add (tputS t) (tputC t)).c]) (by simp [results, Tryd.results47, go_sem, q0, q1]) rfl ?_
  exact ⟨rfl, ((H2.out.below.setCell (by simp) _).setCell (by simp) _)⟩
set_option maxHeartbeats 2000000 in
theorem refpdata_any (o : Ot) (t : ByteArray) (w : World) (hs : o.s.size ≤ 1099511627776) (ht : t.size ≤ 140737488351232) :
    Calls Tryd.prog 73 #[.agg #[.string o.s, .int .i64 o.c], .string t] w fun e w' => RPost (wData o t) w w' e := by
  have h0 := Rw.new w o
  obtain ⟨W, hW⟩ : ∃ W, (w.alloc (.cells #[.string o.s, .int .i64 o.c] 81)).alloc (.cells #[.string ⟨#[]⟩, .int .i64 0] 81) = W := ⟨_, rfl⟩
  rw [hW] at h0
  have H0 := Lib.hid h0
  have HS : Hid (o.s.size + (dataS t).size ≤ 140737488355328) := Lib.hid (by have h2 := dataS_small t; omega)
  have HTT := Lib.hid ht
  clear h0
  go_enter Tryd.func73, Tryd.ntmps73
  go_wp2_with fail
  (with_reducible refine (refdata_all t _ HTT.out).mono ?_)
  rintro e w1 ⟨rfl, b1⟩
  have H1 := Lib.hid (H0.out.step b1)
  clear b1
  have p0 : w1.cell? ⟨w.heap.size, 0, none⟩ = some (.string o.s) := H1.out.p.cell 0
  have p1 : w1.cell? ⟨w.heap.size, 1, none⟩ = some (.int .i64 o.c) := H1.out.p.cell 1
  have q0 : w1.cell? ⟨w.heap.size + 1, 0, none⟩ = some (.string ⟨#[]⟩) := H1.out.q.cell 0
  have q1 : w1.cell? ⟨w.heap.size + 1, 1, none⟩ = some (.int .i64 0) := H1.out.q.cell 1
  have g0 := H1.out.q.frozen 0
  have g1 := H1.out.q.frozen 1
  have CA := Lib.hid (refadd_any o (dataS t) (dataC t) w1 HS.out)
  go_wp2_with fail
  (with_reducible refine CA.out.mono ?_)
  rintro e w2 ⟨rfl, b2⟩
  have H2 := Lib.hid (H1.out.step b2)
  clear b2 p0 p1 q0 q1 g0 g1
  have p0 : w2.cell? ⟨w.heap.size, 0, none⟩ = some (.string o.s) := H2.out.p.cell 0
  have p1 : w2.cell? ⟨w.heap.size, 1, none⟩ = some (.int .i64 o.c) := H2.out.p.cell 1
  have q0 : w2.cell? ⟨w.heap.size + 1, 0, none⟩ = some (.string ⟨#[]⟩) := H2.out.q.cell 0
  have q1 : w2.cell? ⟨w.heap.size + 1, 1, none⟩ = some (.int .i64 0) := H2.out.q.cell 1
  have g0 := H2.out.q.frozen 0
  have g1 := H2.out.q.frozen 1
  clear p0 p1
  go_wp2
  refine bodyPost_ret (v := .agg #[.string (o.add (dataS t) (dataC t)).s, .int .i64 (o.add (dataS t) (dataC t)).c]) (by simp [results, Tryd.results73, go_sem, q0, q1]) rfl ?_
  exact ⟨rfl, ((H2.out.below.setCell (by simp) _).setCell (by simp) _)⟩
end Go.Proofs.YtlnanenfpapfkaaDoor

/- The walks of the document's parts of a packet: low, bit, qos, some, id, all, props. -/
set_option linter.unusedVariables false
namespace Go.Proofs.YtlnanenfpapfkaaDoor
open Go.RowKit Pl

theorem Rw.put {w : World} {o r : Ot} {W : World} (h : Rw w o r W) (x : Ot) : Rw w x r ((W.setCell ⟨w.heap.size, 0, none⟩ (.string x.s)).setCell ⟨w.heap.size, 1, none⟩ (.int .i64 x.c)) :=
  ⟨(h.below.setCell (Nat.le_refl _) _).setCell (Nat.le_refl _) _, (h.p.set 0 (.string x.s)).set 1 (.int .i64 x.c), (h.q.other (by omega) _ _).other (by omega) _ _⟩
theorem rbit_any (x : Bool) (n : Int) (w : World) : Calls Tryd.prog 42 #[.bool x, .int .i64 n] w fun e w' => e = .returned (.int .i64 (bt1 x n)) ∧ w = w' := by
  cases x
  · go_enter Tryd.func42, Tryd.ntmps42
    go_wp2
    go_ret
    exact ⟨rfl, rfl⟩
  · go_enter Tryd.func42, Tryd.ntmps42
    go_wp2
    go_ret
    exact ⟨rfl, rfl⟩
theorem rlow_any (n : Int) (w : World) : Calls Tryd.prog 72 #[.int .i64 n] w fun e w' => e = .returned (.int .i64 (n % 4)) ∧ w = w' := by
  obtain ⟨t, ht⟩ : ∃ t, n.tmod 4 = t := ⟨_, rfl⟩
  have hm : t = n % 4 ∨ (t < 0 ∧ t + 4 = n % 4) := by
    rw [← ht, Int.tmod_eq_emod]
    split
    · left; omega
    · rename_i hh
      have h4 : ¬ (4 : Int) ∣ n := fun d => hh (Or.inr d)
      have e4 : ((4 : Int).natAbs : Int) = 4 := rfl
      right; rw [e4]; exact ⟨by omega, by omega⟩
  have hb : -9223372036854775808 ≤ t ∧ t ≤ 9223372036854775807 := by
    rcases hm with h1 | ⟨h1, h2⟩
    · have := Int.emod_nonneg n (show (4:Int) ≠ 0 by decide); have := Int.emod_lt_of_pos n (show (0:Int) < 4 by decide); exact ⟨by omega, by omega⟩
    · have := Int.emod_nonneg n (show (4:Int) ≠ 0 by decide); exact ⟨by omega, by omega⟩
  have hw : IntKind.i64.wrap t = t := IntWalk.i64_in _ (by omega)
  by_cases h : t < 0
  · have e : t + 4 = n % 4 := by omega
    rw [← e]
    clear e hm
    go_enter Tryd.func72, Tryd.ntmps72
    go_wp2
    go_ret
    exact ⟨rfl, rfl⟩
  · have e : t = n % 4 := by omega
    rw [← e]
    clear e hm
    go_enter Tryd.func72, Tryd.ntmps72
    go_wp2
    go_ret
    exact ⟨rfl, rfl⟩
set_option maxHeartbeats 2000000 in
theorem rqos_any (o : Ot) (n : Int) (w : World) (hs : o.s.size ≤ 1099511627776) :
    Calls Tryd.prog 45 #[.agg #[.string o.s, .int .i64 o.c], .int .i64 n] w fun e w' => RPost (wQos o n) w w' e := by
  have h0 := Rw.new w o
  obtain ⟨W, hW⟩ : ∃ W, (w.alloc (.cells #[.string o.s, .int .i64 o.c] 81)).alloc (.cells #[.string ⟨#[]⟩, .int .i64 0] 81) = W := ⟨_, rfl⟩
  rw [hW] at h0
  have HW := Lib.hid hW
  have H0 := Lib.hid h0
  have HS := Lib.hid (show o.s.size ≤ 140737488355328 from by omega)
  unfold wQos
  by_cases h1 : n < 0
  · rw [if_pos (Or.inl h1)]
    have p0 : W.cell? ⟨w.heap.size, 0, none⟩ = some (.string o.s) := h0.p.cell 0
    have p1 : W.cell? ⟨w.heap.size, 1, none⟩ = some (.int .i64 o.c) := h0.p.cell 1
    have q0 : W.cell? ⟨w.heap.size + 1, 0, none⟩ = some (.string ⟨#[]⟩) := h0.q.cell 0
    have q1 : W.cell? ⟨w.heap.size + 1, 1, none⟩ = some (.int .i64 0) := h0.q.cell 1
    have f0 := h0.p.frozen 0
    have f1 := h0.p.frozen 1
    have g0 := h0.q.frozen 0
    have g1 := h0.q.frozen 1
    have CA := Lib.hid (rf_add o 129 W HS.out)
    clear h0
    go_enter Tryd.func45, Tryd.ntmps45
    go_wp2_with fail
    (with_reducible refine CA.out.mono ?_)
    rintro e w2 ⟨rfl, b2⟩
    have H2 := Lib.hid (H0.out.step b2)
    clear b2 p0 p1 q0 q1 f0 f1 g0 g1
    have p0 : w2.cell? ⟨w.heap.size, 0, none⟩ = some (.string o.s) := H2.out.p.cell 0
    have p1 : w2.cell? ⟨w.heap.size, 1, none⟩ = some (.int .i64 o.c) := H2.out.p.cell 1
    have q0 : w2.cell? ⟨w.heap.size + 1, 0, none⟩ = some (.string ⟨#[]⟩) := H2.out.q.cell 0
    have q1 : w2.cell? ⟨w.heap.size + 1, 1, none⟩ = some (.int .i64 0) := H2.out.q.cell 1
    have f0 := H2.out.p.frozen 0
    have f1 := H2.out.p.frozen 1
    have g0 := H2.out.q.frozen 0
    have g1 := H2.out.q.frozen 1
    go_wp2
    refine bodyPost_ret (v := .agg #[.string (o.fail 129).s, .int .i64 (o.fail 129).c]) (by simp [results, Tryd.results45, go_sem, q0, q1]) rfl ?_
    exact ⟨rfl, ((H2.out.below.setCell (by simp) _).setCell (by simp) _)⟩
  · by_cases h2 : 2 < n
    · rw [if_pos (Or.inr h2)]
      have p0 : W.cell? ⟨w.heap.size, 0, none⟩ = some (.string o.s) := h0.p.cell 0
      have p1 : W.cell? ⟨w.heap.size, 1, none⟩ = some (.int .i64 o.c) := h0.p.cell 1
      have q0 : W.cell? ⟨w.heap.size + 1, 0, none⟩ = some (.string ⟨#[]⟩) := h0.q.cell 0
      have q1 : W.cell? ⟨w.heap.size + 1, 1, none⟩ = some (.int .i64 0) := h0.q.cell 1
      have f0 := h0.p.frozen 0
      have f1 := h0.p.frozen 1
      have g0 := h0.q.frozen 0
      have g1 := h0.q.frozen 1
      have CA := Lib.hid (rf_add o 129 W HS.out)
      clear h0
      go_enter Tryd.func45, Tryd.ntmps45
      go_wp2_with fail
      (with_reducible refine CA.out.mono ?_)
      rintro e w2 ⟨rfl, b2⟩
      have H2 := Lib.hid (H0.out.step b2)
      clear b2 p0 p1 q0 q1 f0 f1 g0 g1
      have p0 : w2.cell? ⟨w.heap.size, 0, none⟩ = some (.string o.s) := H2.out.p.cell 0
      have p1 : w2.cell? ⟨w.heap.size, 1, none⟩ = some (.int .i64 o.c) := H2.out.p.cell 1
      have q0 : w2.cell? ⟨w.heap.size + 1, 0, none⟩ = some (.string ⟨#[]⟩) := H2.out.q.cell 0
      have q1 : w2.cell? ⟨w.heap.size + 1, 1, none⟩ = some (.int .i64 0) := H2.out.q.cell 1
      have f0 := H2.out.p.frozen 0
      have f1 := H2.out.p.frozen 1
      have g0 := H2.out.q.frozen 0
      have g1 := H2.out.q.frozen 1
      go_wp2
      refine bodyPost_ret (v := .agg #[.string (o.fail 129).s, .int .i64 (o.fail 129).c]) (by simp [results, Tryd.results45, go_sem, q0, q1]) rfl ?_
      exact ⟨rfl, ((H2.out.below.setCell (by simp) _).setCell (by simp) _)⟩
    · rw [if_neg (by omega)]
      have p0 : W.cell? ⟨w.heap.size, 0, none⟩ = some (.string o.s) := h0.p.cell 0
      have p1 : W.cell? ⟨w.heap.size, 1, none⟩ = some (.int .i64 o.c) := h0.p.cell 1
      have q0 : W.cell? ⟨w.heap.size + 1, 0, none⟩ = some (.string ⟨#[]⟩) := h0.q.cell 0
      have q1 : W.cell? ⟨w.heap.size + 1, 1, none⟩ = some (.int .i64 0) := h0.q.cell 1
      have f0 := h0.p.frozen 0
      have f1 := h0.p.frozen 1
      have g0 := h0.q.frozen 0
      have g1 := h0.q.frozen 1
      clear h0
      go_enter Tryd.func45, Tryd.ntmps45
      go_wp2
      refine bodyPost_ret (v := .agg #[.string o.s, .int .i64 o.c]) (by simp [results, Tryd.results45, go_sem, q0, q1]) rfl ?_
      exact ⟨rfl, ((H0.out.below.setCell (by simp) _).setCell (by simp) _)⟩
set_option maxHeartbeats 2000000 in
theorem rsome_any (o : Ot) (n : Int) (w : World) (hs : o.s.size ≤ 1099511627776) :
    Calls Tryd.prog 77 #[.agg #[.string o.s, .int .i64 o.c], .int .i64 n] w fun e w' => RPost (wSome o n) w w' e := by
  have h0 := Rw.new w o
  obtain ⟨W, hW⟩ : ∃ W, (w.alloc (.cells #[.string o.s, .int .i64 o.c] 81)).alloc (.cells #[.string ⟨#[]⟩, .int .i64 0] 81) = W := ⟨_, rfl⟩
  rw [hW] at h0
  have HW := Lib.hid hW
  have H0 := Lib.hid h0
  have HS := Lib.hid (show o.s.size ≤ 140737488355328 from by omega)
  unfold wSome
  by_cases h1 : n = 0
  · rw [if_pos h1]
    subst h1
    have p0 : W.cell? ⟨w.heap.size, 0, none⟩ = some (.string o.s) := h0.p.cell 0
    have p1 : W.cell? ⟨w.heap.size, 1, none⟩ = some (.int .i64 o.c) := h0.p.cell 1
    have q0 : W.cell? ⟨w.heap.size + 1, 0, none⟩ = some (.string ⟨#[]⟩) := h0.q.cell 0
    have q1 : W.cell? ⟨w.heap.size + 1, 1, none⟩ = some (.int .i64 0) := h0.q.cell 1
    have f0 := h0.p.frozen 0
    have f1 := h0.p.frozen 1
    have g0 := h0.q.frozen 0
    have g1 := h0.q.frozen 1
    have CA := Lib.hid (rf_add o 130 W HS.out)
    clear h0
    go_enter Tryd.func77, Tryd.ntmps77
    go_wp2_with fail
    (with_reducible refine CA.out.mono ?_)
    rintro e w2 ⟨rfl, b2⟩
    have H2 := Lib.hid (H0.out.step b2)
    clear b2 p0 p1 q0 q1 f0 f1 g0 g1
    have p0 : w2.cell? ⟨w.heap.size, 0, none⟩ = some (.string o.s) := H2.out.p.cell 0
    have p1 : w2.cell? ⟨w.heap.size, 1, none⟩ = some (.int .i64 o.c) := H2.out.p.cell 1
    have q0 : w2.cell? ⟨w.heap.size + 1, 0, none⟩ = some (.string ⟨#[]⟩) := H2.out.q.cell 0
    have q1 : w2.cell? ⟨w.heap.size + 1, 1, none⟩ = some (.int .i64 0) := H2.out.q.cell 1
    have f0 := H2.out.p.frozen 0
    have f1 := H2.out.p.frozen 1
    have g0 := H2.out.q.frozen 0
    have g1 := H2.out.q.frozen 1
    go_wp2
    refine bodyPost_ret (v := .agg #[.string (o.fail 130).s, .int .i64 (o.fail 130).c]) (by simp [results, Tryd.results77, go_sem, q0, q1]) rfl ?_
    exact ⟨rfl, ((H2.out.below.setCell (by simp) _).setCell (by simp) _)⟩
  · have e1 : (n == 0) = false := beq_eq_false_iff_ne.2 h1
    rw [if_neg h1]
    by_cases h2 : 64 < n
    · rw [if_pos h2]
      clear h1
      have p0 : W.cell? ⟨w.heap.size, 0, none⟩ = some (.string o.s) := h0.p.cell 0
      have p1 : W.cell? ⟨w.heap.size, 1, none⟩ = some (.int .i64 o.c) := h0.p.cell 1
      have q0 : W.cell? ⟨w.heap.size + 1, 0, none⟩ = some (.string ⟨#[]⟩) := h0.q.cell 0
      have q1 : W.cell? ⟨w.heap.size + 1, 1, none⟩ = some (.int .i64 0) := h0.q.cell 1
      have f0 := h0.p.frozen 0
      have f1 := h0.p.frozen 1
      have g0 := h0.q.frozen 0
      have g1 := h0.q.frozen 1
      have CA := Lib.hid (rf_add o 149 W HS.out)
      clear h0
      go_enter Tryd.func77, Tryd.ntmps77
      go_wp2_with fail
      (with_reducible refine CA.out.mono ?_)
      rintro e w2 ⟨rfl, b2⟩
      have H2 := Lib.hid (H0.out.step b2)
      clear b2 p0 p1 q0 q1 f0 f1 g0 g1
      have p0 : w2.cell? ⟨w.heap.size, 0, none⟩ = some (.string o.s) := H2.out.p.cell 0
      have p1 : w2.cell? ⟨w.heap.size, 1, none⟩ = some (.int .i64 o.c) := H2.out.p.cell 1
      have q0 : w2.cell? ⟨w.heap.size + 1, 0, none⟩ = some (.string ⟨#[]⟩) := H2.out.q.cell 0
      have q1 : w2.cell? ⟨w.heap.size + 1, 1, none⟩ = some (.int .i64 0) := H2.out.q.cell 1
      have f0 := H2.out.p.frozen 0
      have f1 := H2.out.p.frozen 1
      have g0 := H2.out.q.frozen 0
      have g1 := H2.out.q.frozen 1
      go_wp2
      refine bodyPost_ret (v := .agg #[.string (o.fail 149).s, .int .i64 (o.fail 149).c]) (by simp [results, Tryd.results77, go_sem, q0, q1]) rfl ?_
      exact ⟨rfl, ((H2.out.below.setCell (by simp) _).setCell (by simp) _)⟩
    · rw [if_neg h2]
      clear h1
      have p0 : W.cell? ⟨w.heap.size, 0, none⟩ = some (.string o.s) := h0.p.cell 0
      have p1 : W.cell? ⟨w.heap.size, 1, none⟩ = some (.int .i64 o.c) := h0.p.cell 1
      have q0 : W.cell? ⟨w.heap.size + 1, 0, none⟩ = some (.string ⟨#[]⟩) := h0.q.cell 0
      have q1 : W.cell? ⟨w.heap.size + 1, 1, none⟩ = some (.int .i64 0) := h0.q.cell 1
      have f0 := h0.p.frozen 0
      have f1 := h0.p.frozen 1
      have g0 := h0.q.frozen 0
      have g1 := h0.q.frozen 1
      clear h0
      go_enter Tryd.func77, Tryd.ntmps77
      go_wp2
      refine bodyPost_ret (v := .agg #[.string o.s, .int .i64 o.c]) (by simp [results, Tryd.results77, go_sem, q0, q1]) rfl ?_
      exact ⟨rfl, ((H0.out.below.setCell (by simp) _).setCell (by simp) _)⟩
set_option maxHeartbeats 2000000 in
theorem rid_any (o : Ot) (n : Int) (w : World) (hs : o.s.size ≤ 1099511627776) :
    Calls Tryd.prog 48 #[.agg #[.string o.s, .int .i64 o.c], .int .i64 n] w fun e w' => RPost (wId o n) w w' e := by
  have h0 := Rw.new w o
  obtain ⟨W, hW⟩ : ∃ W, (w.alloc (.cells #[.string o.s, .int .i64 o.c] 81)).alloc (.cells #[.string ⟨#[]⟩, .int .i64 0] 81) = W := ⟨_, rfl⟩
  rw [hW] at h0
  have HW := Lib.hid hW
  have H0 := Lib.hid h0
  have HS := Lib.hid (show o.s.size ≤ 140737488355328 from by omega)
  unfold wId
  by_cases h1 : n < 1
  · rw [if_pos (Or.inl h1)]
    have p0 : W.cell? ⟨w.heap.size, 0, none⟩ = some (.string o.s) := h0.p.cell 0
    have p1 : W.cell? ⟨w.heap.size, 1, none⟩ = some (.int .i64 o.c) := h0.p.cell 1
    have q0 : W.cell? ⟨w.heap.size + 1, 0, none⟩ = some (.string ⟨#[]⟩) := h0.q.cell 0
    have q1 : W.cell? ⟨w.heap.size + 1, 1, none⟩ = some (.int .i64 0) := h0.q.cell 1
    have f0 := h0.p.frozen 0
    have f1 := h0.p.frozen 1
    have g0 := h0.q.frozen 0
    have g1 := h0.q.frozen 1
    have CA := Lib.hid (rf_add o 130 W HS.out)
    clear h0
    go_enter Tryd.func48, Tryd.ntmps48
    go_wp2_with fail
    (with_reducible refine CA.out.mono ?_)
    rintro e w2 ⟨rfl, b2⟩
    have H2 := Lib.hid (H0.out.step b2)
    clear b2 p0 p1 q0 q1 f0 f1 g0 g1
    have p0 : w2.cell? ⟨w.heap.size, 0, none⟩ = some (.string o.s) := H2.out.p.cell 0
    have p1 : w2.cell? ⟨w.heap.size, 1, none⟩ = some (.int .i64 o.c) := H2.out.p.cell 1
    have q0 : w2.cell? ⟨w.heap.size + 1, 0, none⟩ = some (.string ⟨#[]⟩) := H2.out.q.cell 0
    have q1 : w2.cell? ⟨w.heap.size + 1, 1, none⟩ = some (.int .i64 0) := H2.out.q.cell 1
    have f0 := H2.out.p.frozen 0
    have f1 := H2.out.p.frozen 1
    have g0 := H2.out.q.frozen 0
    have g1 := H2.out.q.frozen 1
    go_wp2
    refine bodyPost_ret (v := .agg #[.string (o.fail 130).s, .int .i64 (o.fail 130).c]) (by simp [results, Tryd.results48, go_sem, q0, q1]) rfl ?_
    exact ⟨rfl, ((H2.out.below.setCell (by simp) _).setCell (by simp) _)⟩
  · by_cases h2 : 65535 < n
    · rw [if_pos (Or.inr h2)]
      have p0 : W.cell? ⟨w.heap.size, 0, none⟩ = some (.string o.s) := h0.p.cell 0
      have p1 : W.cell? ⟨w.heap.size, 1, none⟩ = some (.int .i64 o.c) := h0.p.cell 1
      have q0 : W.cell? ⟨w.heap.size + 1, 0, none⟩ = some (.string ⟨#[]⟩) := h0.q.cell 0
      have q1 : W.cell? ⟨w.heap.size + 1, 1, none⟩ = some (.int .i64 0) := h0.q.cell 1
      have f0 := h0.p.frozen 0
      have f1 := h0.p.frozen 1
      have g0 := h0.q.frozen 0
      have g1 := h0.q.frozen 1
      have CA := Lib.hid (rf_add o 130 W HS.out)
      clear h0
      go_enter Tryd.func48, Tryd.ntmps48
      go_wp2_with fail
      (with_reducible refine CA.out.mono ?_)
      rintro e w2 ⟨rfl, b2⟩
      have H2 := Lib.hid (H0.out.step b2)
      clear b2 p0 p1 q0 q1 f0 f1 g0 g1
      have p0 : w2.cell? ⟨w.heap.size, 0, none⟩ = some (.string o.s) := H2.out.p.cell 0
      have p1 : w2.cell? ⟨w.heap.size, 1, none⟩ = some (.int .i64 o.c) := H2.out.p.cell 1
      have q0 : w2.cell? ⟨w.heap.size + 1, 0, none⟩ = some (.string ⟨#[]⟩) := H2.out.q.cell 0
      have q1 : w2.cell? ⟨w.heap.size + 1, 1, none⟩ = some (.int .i64 0) := H2.out.q.cell 1
      have f0 := H2.out.p.frozen 0
      have f1 := H2.out.p.frozen 1
      have g0 := H2.out.q.frozen 0
      have g1 := H2.out.q.frozen 1
      go_wp2
      refine bodyPost_ret (v := .agg #[.string (o.fail 130).s, .int .i64 (o.fail 130).c]) (by simp [results, Tryd.results48, go_sem, q0, q1]) rfl ?_
      exact ⟨rfl, ((H2.out.below.setCell (by simp) _).setCell (by simp) _)⟩
    · rw [if_neg (by omega)]
      have p0 : W.cell? ⟨w.heap.size, 0, none⟩ = some (.string o.s) := h0.p.cell 0
      have p1 : W.cell? ⟨w.heap.size, 1, none⟩ = some (.int .i64 o.c) := h0.p.cell 1
      have q0 : W.cell? ⟨w.heap.size + 1, 0, none⟩ = some (.string ⟨#[]⟩) := h0.q.cell 0
      have q1 : W.cell? ⟨w.heap.size + 1, 1, none⟩ = some (.int .i64 0) := h0.q.cell 1
      have f0 := h0.p.frozen 0
      have f1 := h0.p.frozen 1
      have g0 := h0.q.frozen 0
      have g1 := h0.q.frozen 1
      have CA := Lib.hid (refnumber_any o 2 n W hs (by decide))
      clear h0
      go_enter Tryd.func48, Tryd.ntmps48
      go_wp2_with fail
      (with_reducible refine CA.out.mono ?_)
      rintro e w2 ⟨rfl, b2⟩
      have H2 := Lib.hid (H0.out.step b2)
      clear b2 p0 p1 q0 q1 f0 f1 g0 g1
      have p0 : w2.cell? ⟨w.heap.size, 0, none⟩ = some (.string o.s) := H2.out.p.cell 0
      have p1 : w2.cell? ⟨w.heap.size, 1, none⟩ = some (.int .i64 o.c) := H2.out.p.cell 1
      have q0 : w2.cell? ⟨w.heap.size + 1, 0, none⟩ = some (.string ⟨#[]⟩) := H2.out.q.cell 0
      have q1 : w2.cell? ⟨w.heap.size + 1, 1, none⟩ = some (.int .i64 0) := H2.out.q.cell 1
      have f0 := H2.out.p.frozen 0
      have f1 := H2.out.p.frozen 1
      have g0 := H2.out.q.frozen 0
      have g1 := H2.out.q.frozen 1
      go_wp2
      refine bodyPost_ret (v := .agg #[.string (wNum 2 o n).s, .int .i64 (wNum 2 o n).c]) (by simp [results, Tryd.results48, go_sem, q0, q1]) rfl ?_
      exact ⟨rfl, ((H2.out.below.setCell (by simp) _).setCell (by simp) _)⟩
set_option maxHeartbeats 1000000 in
theorem rall_any (k : Int) (A : Option Addr) (n cap : Nat) (L : List Pp) (w : World) (hn : L.length = n) (hm : n ≤ 1048576) (h : PRow w A L) :
    Calls Tryd.prog 75 #[.int .i64 k, .slice A n cap] w fun e w' => e = .returned (.bool (okAll k L)) ∧ Below w.heap.size w w' := by
  have H := Lib.hid h
  have HN := Lib.hid hn
  obtain ⟨q, hq⟩ : ∃ q : Pp → Bool, (fun p => !alw k p.id) = q := ⟨_, rfl⟩
  have HQ : Hid (∀ p : Pp, q p = !alw k p.id) := Lib.hid fun p => by rw [← hq]
  obtain ⟨r, hr⟩ : ∃ r, okAll k L = r := ⟨_, rfl⟩
  have HR : Hid ((!L.any q) = r) := Lib.hid (by rw [← hr, ← hq]; rfl)
  rw [hr]
  clear h hn hq hr
  go_enter Tryd.func75, Tryd.ntmps75
  go_wp2
  go_loopw [5, 6] (fun i _ wr => ∃ j : Nat, i = .int .i64 j ∧ j ≤ n ∧ Hid ((L.take j).any q = false) ∧ Hid (Below w.heap.size w wr)) (fun i _ _ => n - (intOf i).toNat)
  case atStart => exact ⟨0, rfl, by omega, Lib.hid rfl, Lib.hid (Below.refl _ _)⟩
  case round =>
    obtain ⟨j, rfl, hj, hv, hb⟩ := hrel
    by_cases hlt : j < n
    · obtain ⟨b, o, rfl, hl, hc⟩ := (H.out.below hb.out) (by rw [HN.out]; omega)
      obtain ⟨x, hx⟩ : ∃ x, L[j]? = some x := ⟨_, List.getElem?_eq_getElem (by rw [HN.out]; omega)⟩
      obtain ⟨c0, c1, c2, c3⟩ := hc j x hx
      have hjI : (j : Int) < (n : Int) := by omega
      obtain ⟨y, hy⟩ : ∃ y, alw k x.id = y := ⟨_, rfl⟩
      have HY := Lib.hid ((HQ.out x).trans (by rw [hy]))
      have HX := Lib.hid hx
      have CA : ∀ X : World, Calls Tryd.prog 96 #[.int .i64 k, .int .i64 x.id] X fun e w' => e = .returned (.bool y) ∧ Below X.heap.size X w' := fun X => by rw [← hy]; exact refallowed_any k x.id X
      have CA := Lib.hid CA
      clear hc c1 c2 c3 hx hy
      cases y
      · have Hr : Hid (r = false) := Lib.hid (by
          rw [← HR.out, Bool.not_eq_false', List.any_eq_true]
          exact ⟨x, List.mem_of_getElem? HX.out, HY.out⟩)
        go_wp2_with fail
        (with_reducible refine (CA.out _).mono ?_)
        rintro e w1 ⟨rfl, b1⟩
        have B1 := Lib.hid (hb.out.trans (b1.mono hb.out.size))
        clear b1
        go_wp2
        go_ret
        exact ⟨ret_bool Hr.out.symm, B1.out⟩
      · have Hr := Lib.hid (any_take_p HX.out hv.out HY.out)
        go_wp2_with fail
        (with_reducible refine (CA.out _).mono ?_)
        rintro e w1 ⟨rfl, b1⟩
        have B1 := Lib.hid (hb.out.trans (b1.mono hb.out.size))
        clear b1
        go_wp2
        go_round
        case rel => exact ⟨j + 1, by go_num, by omega, Hr.out, B1⟩
        case measure => simp [intOf]; omega
    · obtain rfl : j = n := by omega
      have Hr : Hid (r = true) := Lib.hid (by
        have h2 := hv.out
        rw [← HN.out, List.take_length] at h2
        rw [← HR.out, h2]; rfl)
      have hb2 := hb
      clear hb
      go_wp2
      go_ret
      exact ⟨ret_bool Hr.out.symm, hb2.out⟩
set_option maxHeartbeats 2000000 in
theorem rprops_any (o : Ot) (k : Int) (A : Option Addr) (n cap : Nat) (L : List Pp) (w : World) (hn : L.length = n) (hc : n ≤ cap) (hm : n ≤ 1048576) (hL : PRow w A L) (hz : ∀ p ∈ L, p.fits) (hs : o.s.size ≤ 1099511627776) :
    Calls Tryd.prog 44 #[.agg #[.string o.s, .int .i64 o.c], .int .i64 k, .slice A n cap] w fun e w' => RPost (wProps k o L) w w' e := by
  have h0 := Rw.new w o
  obtain ⟨W, hW⟩ : ∃ W, (w.alloc (.cells #[.string o.s, .int .i64 o.c] 81)).alloc (.cells #[.string ⟨#[]⟩, .int .i64 0] 81) = W := ⟨_, rfl⟩
  rw [hW] at h0
  have HW := Lib.hid hW
  have H0 := Lib.hid h0
  have CP := Lib.hid (refpput_any A n cap L W hn hc hm (hL.below H0.out.below) hz)
  have HS : Hid (o.s.size + (ppS L).size ≤ 140737488355328) := Lib.hid (by have := ppS_small L; omega)
  have HS2 : Hid ((o.add (ppS L) (ppC L)).s.size ≤ 140737488355328) := Lib.hid (by rw [add_size]; exact HS.out)
  obtain ⟨r, hr⟩ : ∃ r, okAll k L = r := ⟨_, rfl⟩
  have CO : ∀ X : World, Below w.heap.size w X → Calls Tryd.prog 75 #[.int .i64 k, .slice A n cap] X fun e w' => e = .returned (.bool r) ∧ Below X.heap.size X w' := fun X hX => by rw [← hr]; exact rall_any k A n cap L X hn hm (hL.below hX)
  have CO := Lib.hid CO
  obtain ⟨o2, ho2⟩ : ∃ o2, o.add (ppS L) (ppC L) = o2 := ⟨_, rfl⟩
  have CAA : ∀ X : World, Calls Tryd.prog 46 #[.agg #[.string o.s, .int .i64 o.c], .string (ppS L), .int .i64 (ppC L)] X fun e w' => RPost o2 X w' e := fun X => by rw [← ho2]; exact refadd_any o (ppS L) (ppC L) X HS.out
  have CAA := Lib.hid CAA
  unfold wProps
  rw [hr]
  rw [ho2] at HS2 ⊢
  clear ho2
  have p0 : W.cell? ⟨w.heap.size, 0, none⟩ = some (.string o.s) := h0.p.cell 0
  have p1 : W.cell? ⟨w.heap.size, 1, none⟩ = some (.int .i64 o.c) := h0.p.cell 1
  have q0 : W.cell? ⟨w.heap.size + 1, 0, none⟩ = some (.string ⟨#[]⟩) := h0.q.cell 0
  have q1 : W.cell? ⟨w.heap.size + 1, 1, none⟩ = some (.int .i64 0) := h0.q.cell 1
  have f0 := h0.p.frozen 0
  have f1 := h0.p.frozen 1
  have g0 := h0.q.frozen 0
  have g1 := h0.q.frozen 1
  clear h0 hr hL hz
  cases r
  · rw [if_neg (by decide)]
    go_enter Tryd.func44, Tryd.ntmps44
    go_wp2_with fail
    (with_reducible refine CP.out.mono ?_)
    rintro e w1 ⟨rfl, b1⟩
    have H1 := Lib.hid (H0.out.step b1)
    clear b1 p0 p1 q0 q1 f0 f1 g0 g1
    have p0 : w1.cell? ⟨w.heap.size, 0, none⟩ = some (.string o.s) := H1.out.p.cell 0
    have p1 : w1.cell? ⟨w.heap.size, 1, none⟩ = some (.int .i64 o.c) := H1.out.p.cell 1
    have q0 : w1.cell? ⟨w.heap.size + 1, 0, none⟩ = some (.string ⟨#[]⟩) := H1.out.q.cell 0
    have q1 : w1.cell? ⟨w.heap.size + 1, 1, none⟩ = some (.int .i64 0) := H1.out.q.cell 1
    have f0 := H1.out.p.frozen 0
    have f1 := H1.out.p.frozen 1
    have g0 := H1.out.q.frozen 0
    have g1 := H1.out.q.frozen 1
    go_wp2_with fail
    (with_reducible refine (CAA.out _).mono ?_)
    rintro e w2 ⟨rfl, b2⟩
    have H2 := Lib.hid (H1.out.step b2)
    clear b2 p0 p1 q0 q1 f0 f1 g0 g1
    have p0 : w2.cell? ⟨w.heap.size, 0, none⟩ = some (.string o.s) := H2.out.p.cell 0
    have p1 : w2.cell? ⟨w.heap.size, 1, none⟩ = some (.int .i64 o.c) := H2.out.p.cell 1
    have q0 : w2.cell? ⟨w.heap.size + 1, 0, none⟩ = some (.string ⟨#[]⟩) := H2.out.q.cell 0
    have q1 : w2.cell? ⟨w.heap.size + 1, 1, none⟩ = some (.int .i64 0) := H2.out.q.cell 1
    have f0 := H2.out.p.frozen 0
    have f1 := H2.out.p.frozen 1
    have g0 := H2.out.q.frozen 0
    have g1 := H2.out.q.frozen 1
    have K2 := Lib.hid (H2.out.put o2)
    have K3 := Lib.hid (CO.out _ K2.out.below)
    go_wp2_with fail
    (with_reducible refine K3.out.mono ?_)
    rintro e w3 ⟨rfl, b3⟩
    have H3 := Lib.hid (K2.out.step b3)
    clear b3 p0 p1 q0 q1 f0 f1 g0 g1
    have p0 : w3.cell? ⟨w.heap.size, 0, none⟩ = some (.string o2.s) := H3.out.p.cell 0
    have p1 : w3.cell? ⟨w.heap.size, 1, none⟩ = some (.int .i64 o2.c) := H3.out.p.cell 1
    have q0 : w3.cell? ⟨w.heap.size + 1, 0, none⟩ = some (.string ⟨#[]⟩) := H3.out.q.cell 0
    have q1 : w3.cell? ⟨w.heap.size + 1, 1, none⟩ = some (.int .i64 0) := H3.out.q.cell 1
    have f0 := H3.out.p.frozen 0
    have f1 := H3.out.p.frozen 1
    have g0 := H3.out.q.frozen 0
    have g1 := H3.out.q.frozen 1
    have CF := Lib.hid (rf_add o2 130 w3 HS2.out)
    go_wp2_with fail
    (with_reducible refine CF.out.mono ?_)
    rintro e w4 ⟨rfl, b4⟩
    have H4 := Lib.hid (H3.out.step b4)
    clear b4 p0 p1 q0 q1 f0 f1 g0 g1
    have p0 : w4.cell? ⟨w.heap.size, 0, none⟩ = some (.string o2.s) := H4.out.p.cell 0
    have p1 : w4.cell? ⟨w.heap.size, 1, none⟩ = some (.int .i64 o2.c) := H4.out.p.cell 1
    have q0 : w4.cell? ⟨w.heap.size + 1, 0, none⟩ = some (.string ⟨#[]⟩) := H4.out.q.cell 0
    have q1 : w4.cell? ⟨w.heap.size + 1, 1, none⟩ = some (.int .i64 0) := H4.out.q.cell 1
    have f0 := H4.out.p.frozen 0
    have f1 := H4.out.p.frozen 1
    have g0 := H4.out.q.frozen 0
    have g1 := H4.out.q.frozen 1
    go_wp2
    refine bodyPost_ret (v := .agg #[.string (o2.fail 130).s, .int .i64 (o2.fail 130).c]) (by simp [results, Tryd.results44, go_sem, q0, q1]) rfl ?_
    exact ⟨rfl, ((((H4.out.below.setCell (by simp) _).setCell (by simp) _).setCell (by simp) _).setCell (by simp) _)⟩
  · rw [if_pos rfl]
    go_enter Tryd.func44, Tryd.ntmps44
    go_wp2_with fail
    (with_reducible refine CP.out.mono ?_)
    rintro e w1 ⟨rfl, b1⟩
    have H1 := Lib.hid (H0.out.step b1)
    clear b1 p0 p1 q0 q1 f0 f1 g0 g1
    have p0 : w1.cell? ⟨w.heap.size, 0, none⟩ = some (.string o.s) := H1.out.p.cell 0
    have p1 : w1.cell? ⟨w.heap.size, 1, none⟩ = some (.int .i64 o.c) := H1.out.p.cell 1
    have q0 : w1.cell? ⟨w.heap.size + 1, 0, none⟩ = some (.string ⟨#[]⟩) := H1.out.q.cell 0
    have q1 : w1.cell? ⟨w.heap.size + 1, 1, none⟩ = some (.int .i64 0) := H1.out.q.cell 1
    have f0 := H1.out.p.frozen 0
    have f1 := H1.out.p.frozen 1
    have g0 := H1.out.q.frozen 0
    have g1 := H1.out.q.frozen 1
    go_wp2_with fail
    (with_reducible refine (CAA.out _).mono ?_)
    rintro e w2 ⟨rfl, b2⟩
    have H2 := Lib.hid (H1.out.step b2)
    clear b2 p0 p1 q0 q1 f0 f1 g0 g1
    have p0 : w2.cell? ⟨w.heap.size, 0, none⟩ = some (.string o.s) := H2.out.p.cell 0
    have p1 : w2.cell? ⟨w.heap.size, 1, none⟩ = some (.int .i64 o.c) := H2.out.p.cell 1
    have q0 : w2.cell? ⟨w.heap.size + 1, 0, none⟩ = some (.string ⟨#[]⟩) := H2.out.q.cell 0
    have q1 : w2.cell? ⟨w.heap.size + 1, 1, none⟩ = some (.int .i64 0) := H2.out.q.cell 1
    have f0 := H2.out.p.frozen 0
    have f1 := H2.out.p.frozen 1
    have g0 := H2.out.q.frozen 0
    have g1 := H2.out.q.frozen 1
    have K2 := Lib.hid (H2.out.put o2)
    have K3 := Lib.hid (CO.out _ K2.out.below)
    go_wp2_with fail
    (with_reducible refine K3.out.mono ?_)
    rintro e w3 ⟨rfl, b3⟩
    have H3 := Lib.hid (K2.out.step b3)
    clear b3 p0 p1 q0 q1 f0 f1 g0 g1
    have p0 : w3.cell? ⟨w.heap.size, 0, none⟩ = some (.string o2.s) := H3.out.p.cell 0
    have p1 : w3.cell? ⟨w.heap.size, 1, none⟩ = some (.int .i64 o2.c) := H3.out.p.cell 1
    have q0 : w3.cell? ⟨w.heap.size + 1, 0, none⟩ = some (.string ⟨#[]⟩) := H3.out.q.cell 0
    have q1 : w3.cell? ⟨w.heap.size + 1, 1, none⟩ = some (.int .i64 0) := H3.out.q.cell 1
    have f0 := H3.out.p.frozen 0
    have f1 := H3.out.p.frozen 1
    have g0 := H3.out.q.frozen 0
    have g1 := H3.out.q.frozen 1
    go_wp2
    refine bodyPost_ret (v := .agg #[.string o2.s, .int .i64 o2.c]) (by simp [results, Tryd.results44, go_sem, q0, q1]) rfl ?_
    exact ⟨rfl, ((H3.out.below.setCell (by simp) _).setCell (by simp) _)⟩
end Go.Proofs.YtlnanenfpapfkaaDoor
