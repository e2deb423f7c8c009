/- The document's flow: Answer. -/
import Derived.Test.YtnclobnnnihpfaaReO
import Derived.Test.YtnclobnnnihpfaaAct
namespace Go.Proofs.Ytnclobnnnihpfaa
set_option linter.unusedVariables false
set_option linter.unusedSimpArgs false
open Go.RowKit Go.Maps

def atV : Option Nat → Int
  | none => -1
  | some j => j
theorem findIdx_lt {l : List OF} {p : OF → Bool} {j : Nat} (h : l.findIdx? p = some j) : ∃ x, l[j]? = some x ∧ p x = true := by
  obtain ⟨hj, hp, _⟩ := List.findIdx?_eq_some_iff_getElem.1 h
  exact ⟨l[j], List.getElem?_eq_getElem hj, hp⟩
theorem take_at {l : List OF} {id : Int} {i : Nat} {x : OF} (hx : l[i]? = some x) (hn : (oids l).Nodup) (he : x.id = id) : (l.take (i + 1)).findIdx? (fun x => x.id == id) = some i := by
  have hi := (List.getElem?_eq_some_iff.1 hx).1
  rw [List.take_add_one, hx]
  show (l.take i ++ [x]).findIdx? _ = _
  rw [List.findIdx?_append]
  have hnone : (l.take i).findIdx? (fun x => x.id == id) = none := by
    cases hf : (l.take i).findIdx? (fun x => x.id == id) with
    | none => rfl
    | some j =>
      obtain ⟨y, hy, hp⟩ := findIdx_lt hf
      have hj := (List.getElem?_eq_some_iff.1 hy).1
      rw [List.length_take] at hj
      rw [List.getElem?_take, if_pos (by omega)] at hy
      have hp : y.id = id := by simpa using hp
      have h1 : (oids l)[j]? = some id := by unfold oids; rw [List.getElem?_map, hy]; simp [hp]
      have h2 : (oids l)[i]? = some id := by unfold oids; rw [List.getElem?_map, hx]; simp [he]
      have hlo : (oids l).length = l.length := oids_length l
      exact absurd ((List.getElem?_eq_some_iff.1 h1).2.trans (List.getElem?_eq_some_iff.1 h2).2.symm) (List.pairwise_iff_getElem.1 hn j i (by omega) (by omega) (by omega))
  have hc : (x.id == id) = true := by rw [he]; simp
  rw [hnone]
  simp [List.findIdx?_cons, hc, List.length_take]
  omega
theorem take_not {l : List OF} {id : Int} {i : Nat} {x : OF} (hx : l[i]? = some x) (he : x.id ≠ id) : (l.take (i + 1)).findIdx? (fun x => x.id == id) = (l.take i).findIdx? (fun x => x.id == id) := by
  rw [List.take_add_one, hx]
  show (l.take i ++ [x]).findIdx? _ = _
  rw [List.findIdx?_append]
  have hc : (x.id == id) = false := beq_eq_false_iff_ne.2 he
  cases (l.take i).findIdx? (fun x => x.id == id) <;> simp [List.findIdx?_cons, hc]
theorem rflow_rel {B fp pb i g o cap : Nat} {s : FS} {x : OF} {vw vl : Value} {L : List Int} {w : World} (h : DFlowV B fp pb s (.slice (some ⟨g, o, none⟩) s.fl.length cap) vw vl L w) (hx : s.fl[i]? = some x) (hq : x.m.qos = 2) :
    DFlowV B fp pb (frel s i) (.slice (some ⟨g, o, none⟩) s.fl.length cap) vw vl L (w.setCell ⟨g, o + (i * 7 + 6), none⟩ (.bool true)) ∧ Fr B refS w (w.setCell ⟨g, o + (i * 7 + 6), none⟩ (.bool true)) := by
  have hin : i < s.fl.length := (List.getElem?_eq_some_iff.1 hx).1
  obtain ⟨cur, hg⟩ : ∃ cur, Blk w g cur 102 := by
    obtain ⟨o', ho⟩ : ∃ o', w.heap[g]? = some o' := ⟨_, Array.getElem?_eq_getElem (h.fl.lt g rfl).2⟩
    obtain ⟨cur, e⟩ := h.fl.obj g o' rfl ho
    subst e
    exact ⟨cur, ho⟩
  refine ⟨⟨h.ok.rel hx hq, h.hB, h.blk.other (blk_ne h.blk hg (by decide)) _ _, ?_, h.wt.set _ _ (fun c => h.wt.ne2 h.fl (by decide) g c rfl), h.pool.hP, h.pool.blk.other (blk_ne h.pool.blk hg (by decide)) _ _, h.pool.ls.set _ _ (h.pool.ls.ne hg (by decide)), ?_⟩, (Fr.refl B _ w).set hg (h.fl.lt g rfl).1 (fun _ _ => refS_cells (.inr (.inr (.inl rfl)))) _ _⟩
  · have := h.fl.put (i * 7 + 6) (.bool true)
    rw [← flL_rel s.fl i hin] at this
    show Sl B _ _ 7 _ (s.fl.modify i _).length (flL (s.fl.modify i _))
    rw [List.length_modify]
    exact this
  · show L.Perm (oids (s.fl.modify i _))
    rw [oids_modify]
    exact h.pool.pm
set_option maxHeartbeats 4000000 in
set_option maxRecDepth 100000 in
theorem rans_off (B fp pb : Nat) (s : FS) (k id code : Int) (w : World) (h : DFlowAt B fp pb s w) (hon : s.on = false) :
    Calls Try.prog 19 #[.pointer (some ⟨fp, 0, none⟩), .agg (refA k id code)] w (RAnsPost B fp pb w (fanswer s k id code)) := by
  have hY := (Below.refl w.heap.size w).alloc (Nat.le_refl _) (.cells (refA k id code) 56)
  have hb := blk_at w (refA k id code) 56 rfl
  obtain ⟨Y, hYe⟩ : ∃ Y, w.alloc (.cells (refA k id code) 56) = Y := ⟨_, rfl⟩
  rw [hYe] at hY hb
  obtain ⟨vf, vw, vl, LL, hV⟩ := h.below hY
  obtain ⟨ao, cap, rfl, -⟩ := hV.fl.form
  have HV := Lib.hid hV
  have HF := Lib.hid (Fr.of_below (S := refS) hY h.sz)
  have HMB := Lib.hid hb
  have HE := Lib.hid hYe
  have hsz : B ≤ w.heap.size := h.sz
  have hwY : w.heap.size < Y.heap.size := hb.lt
  have n0 := hb.cell 0
  have n4 := hb.cell 4
  have n7 := hb.cell 7
  have c2 := hV.blk.cell 2
  have c3 := hV.blk.cell 3
  simp only [refA, List.getElem?_toArray, List.getElem?_cons_zero, List.getElem?_cons_succ] at n0 n4 n7 c2 c3
  have Hx := Lib.hid (show fanswer s k id code = (s, [], 130) from by unfold fanswer; rw [if_pos (.inl hon)])
  rw [hon] at c2
  clear hYe hY hb hV h hon c3
  unfold refA
  go_enter Try.func19, Try.ntmps19
  go_wp2_with (first | (rw [show w.alloc (.cells #[.int .i64 k, .bool false, .bool false, .int .i64 0, .int .i64 id, .string ⟨#[]⟩, .string ⟨#[]⟩, .int .i64 code, .slice none 0 0, .slice none 0 0, .string ⟨#[]⟩, .bool false, .int .i64 0, .bool false, .string ⟨#[]⟩, .string ⟨#[]⟩, .int .i64 0, .bool false, .slice none 0 0, .bool false, .bool false, .string ⟨#[]⟩, .string ⟨#[]⟩, .bool false, .slice none 0 0, .slice none 0 0] 56) = Y from HE.out]) | (fail))
  go_ret2
  exact ransPost_mk Hx.out ⟨_, _, _, _, HV.out⟩ (ROutAt.nil _ _) HF.out
set_option maxHeartbeats 4000000 in
set_option maxRecDepth 100000 in
theorem rans_kind (B fp pb : Nat) (s : FS) (k id code : Int) (w : World) (h : DFlowAt B fp pb s w) (hon : s.on = true) (h4 : k ≠ 4) (h5 : k ≠ 5) (h7 : k ≠ 7) :
    Calls Try.prog 19 #[.pointer (some ⟨fp, 0, none⟩), .agg (refA k id code)] w (RAnsPost B fp pb w (fanswer s k id code)) := by
  have hY := (Below.refl w.heap.size w).alloc (Nat.le_refl _) (.cells (refA k id code) 56)
  have hb := blk_at w (refA k id code) 56 rfl
  obtain ⟨Y, hYe⟩ : ∃ Y, w.alloc (.cells (refA k id code) 56) = Y := ⟨_, rfl⟩
  rw [hYe] at hY hb
  obtain ⟨vf, vw, vl, LL, hV⟩ := h.below hY
  obtain ⟨ao, cap, rfl, -⟩ := hV.fl.form
  have HV := Lib.hid hV
  have HF := Lib.hid (Fr.of_below (S := refS) hY h.sz)
  have HMB := Lib.hid hb
  have HE := Lib.hid hYe
  have hsz : B ≤ w.heap.size := h.sz
  have hwY : w.heap.size < Y.heap.size := hb.lt
  have n0 := hb.cell 0
  have n4 := hb.cell 4
  have n7 := hb.cell 7
  have c2 := hV.blk.cell 2
  have c3 := hV.blk.cell 3
  simp only [refA, List.getElem?_toArray, List.getElem?_cons_zero, List.getElem?_cons_succ] at n0 n4 n7 c2 c3
  have Hx := Lib.hid (show fanswer s k id code = (s, [], 130) from by unfold fanswer; rw [if_pos (.inr ⟨h4, h5, h7⟩)])
  rw [hon] at c2
  have e4 : (k == 4) = false := by rw [beq_eq_false_iff_ne]; exact h4
  have e5 : (k == 5) = false := by rw [beq_eq_false_iff_ne]; exact h5
  have e7 : (k == 7) = false := by rw [beq_eq_false_iff_ne]; exact h7
  clear hYe hY hb hV h hon c3 h4 h5 h7
  unfold refA
  go_enter Try.func19, Try.ntmps19
  go_wp2_with (first | (rw [show w.alloc (.cells #[.int .i64 k, .bool false, .bool false, .int .i64 0, .int .i64 id, .string ⟨#[]⟩, .string ⟨#[]⟩, .int .i64 code, .slice none 0 0, .slice none 0 0, .string ⟨#[]⟩, .bool false, .int .i64 0, .bool false, .string ⟨#[]⟩, .string ⟨#[]⟩, .int .i64 0, .bool false, .slice none 0 0, .bool false, .bool false, .string ⟨#[]⟩, .string ⟨#[]⟩, .bool false, .slice none 0 0, .slice none 0 0] 56) = Y from HE.out]) | (fail))
  go_ret2
  exact ransPost_mk Hx.out ⟨_, _, _, _, HV.out⟩ (ROutAt.nil _ _) HF.out
set_option maxHeartbeats 4000000 in
set_option maxRecDepth 100000 in
theorem rans_4 (B fp pb : Nat) (s : FS) (id code : Int) (w : World) (h : DFlowAt B fp pb s w) (hon : s.on = true) (hc0 : 0 ≤ code) (hc1 : code ≤ 255) :
    Calls Try.prog 19 #[.pointer (some ⟨fp, 0, none⟩), .agg (refA 4 id code)] w (RAnsPost B fp pb w (fanswer s 4 id code)) := by
  have hY := (Below.refl w.heap.size w).alloc (Nat.le_refl _) (.cells (refA 4 id code) 56)
  have hb := blk_at w (refA 4 id code) 56 rfl
  obtain ⟨Y, hYe⟩ : ∃ Y, w.alloc (.cells (refA 4 id code) 56) = Y := ⟨_, rfl⟩
  rw [hYe] at hY hb
  obtain ⟨vf, vw, vl, LL, hV⟩ := h.below hY
  obtain ⟨ao, cap, rfl, -⟩ := hV.fl.form
  have HV := Lib.hid hV
  have HF := Lib.hid (Fr.of_below (S := refS) hY h.sz)
  have HMB := Lib.hid hb
  have HE := Lib.hid hYe
  have hsz : B ≤ w.heap.size := h.sz
  have hwY : w.heap.size < Y.heap.size := hb.lt
  have n0 := hb.cell 0
  have n4 := hb.cell 4
  have n7 := hb.cell 7
  have c2 := hV.blk.cell 2
  have c3 := hV.blk.cell 3
  simp only [refA, List.getElem?_toArray, List.getElem?_cons_zero, List.getElem?_cons_succ] at n0 n4 n7 c2 c3
  rw [hon] at c2
  have HON := Lib.hid hon
  clear hon
  clear hYe hY hb hV h n7
  unfold refA
  go_enter Try.func19, Try.ntmps19
  go_wp2_with (first | (rw [show w.alloc (.cells #[.int .i64 4, .bool false, .bool false, .int .i64 0, .int .i64 id, .string ⟨#[]⟩, .string ⟨#[]⟩, .int .i64 code, .slice none 0 0, .slice none 0 0, .string ⟨#[]⟩, .bool false, .int .i64 0, .bool false, .string ⟨#[]⟩, .string ⟨#[]⟩, .int .i64 0, .bool false, .slice none 0 0, .bool false, .bool false, .string ⟨#[]⟩, .string ⟨#[]⟩, .bool false, .slice none 0 0, .slice none 0 0] 56) = Y from HE.out]) | (fail))
  clear c2 c3 n0 n4
  have hl64 := HV.out.ok.fl
  go_loopw [9, 10] (fun av iv wr => ∃ (i : Nat) (z : Int), av = .int .i64 z ∧ iv = .int .i64 i ∧ i ≤ s.fl.length ∧ Hid (z = atV ((s.fl.take i).findIdx? (fun x => x.id == id))) ∧ Hid (Below Y.heap.size Y wr)) (fun _ iv _ => ((s.fl.length : Int) - intOf iv).toNat)
  case atStart => exact ⟨0, -1, rfl, rfl, Nat.zero_le _, Lib.hid rfl, Lib.hid (Below.refl _ _)⟩
  case round =>
    obtain ⟨i, z, rfl, rfl, hi, hz, hW⟩ := hrel
    have HVW := Lib.hid (HV.out.below hW.out)
    have HMW := Lib.hid (HMB.out.of_below hW.out)
    have c3 := HVW.out.blk.cell 3
    have n4 := HMW.out.cell 4
    simp only [refA, List.getElem?_toArray, List.getElem?_cons_zero, List.getElem?_cons_succ] at n4 c3
    by_cases hil : i < s.fl.length
    · obtain ⟨x, hx⟩ : ∃ x, s.fl[i]? = some x := ⟨_, List.getElem?_eq_getElem hil⟩
      obtain ⟨g, o, cap', ev, -, -, -, -, hcl⟩ := HVW.out.fl.at (by omega)
      injection ev with e1 e2 e3
      subst e1
      have q0 := hcl (i * 7) (.int .i64 x.id) (flL_get s.fl i x hx 0 _ rfl)
      have hI : (i : Int) < (s.fl.length : Int) := by omega
      have II : Hid (i < s.fl.length) := Lib.hid hil
      clear hcl e2 e3 hil
      by_cases hxe : x.id = id
      · have hs := Lib.hid (take_at hx HV.out.ok.nd hxe)
        rw [hxe] at q0
        clear hx hxe
        go_wp2
        go_quiet (fail)
        go_wp2
        go_roundw
        case rel => exact ⟨i + 1, i, rfl, by go_num, by have := II.out; omega, Lib.hid (by rw [hs.out]; rfl), Lib.hid (hW.out.trans ⟨rfl, rfl, rfl, Nat.le_refl _, fun _ _ => rfl⟩)⟩
        case measure => have := II.out; simp [intOf]; omega
      · have hs := Lib.hid (take_not hx hxe)
        have hq : (x.id == id) = false := beq_eq_false_iff_ne.2 hxe
        clear hx hxe
        go_wp2
        go_quiet (fail)
        go_wp2
        go_roundw
        case rel => exact ⟨i + 1, z, rfl, by go_num, by have := II.out; omega, Lib.hid (by rw [hs.out]; exact hz.out), Lib.hid (hW.out.trans ⟨rfl, rfl, rfl, Nat.le_refl _, fun _ _ => rfl⟩)⟩
        case measure => have := II.out; simp [intOf]; omega
    · obtain rfl : i = s.fl.length := by omega
      have hnl : ¬ ((s.fl.length : Int) < (s.fl.length : Int)) := by omega
      rw [List.take_length] at hz
      have HFW := Lib.hid (HF.out.trans (Fr.of_below (S := refS) hW.out HV.out.sz))
      cases hf : s.fl.findIdx? (fun x => x.id == id) with
      | none =>
        have hz1 := hz.out
        rw [hf] at hz1
        obtain rfl : z = -1 := hz1
        have Hx := Lib.hid (show fanswer s 4 id code = (s, [], 146) from by unfold fanswer; rw [if_neg (by rw [HON.out]; simp), hf])
        clear hf
        go_wp2
        go_ret2
        exact ransPost_mk Hx.out ⟨_, _, _, _, HVW.out⟩ (ROutAt.nil _ _) HFW.out
      | some j =>
        have hz1 := hz.out
        rw [hf] at hz1
        obtain rfl : z = (j : Int) := hz1
        obtain ⟨x, hx, hxi⟩ := findIdx_lt hf
        have hin : j < s.fl.length := (List.getElem?_eq_some_iff.1 hx).1
        obtain ⟨g, o, cap', ev, hBg, hgl, hnc, hcm, hcl⟩ := HVW.out.fl.at (by omega)
        injection ev with e1 e2 e3
        subst e1
        have cl : ∀ k u, (ofC x)[k]? = some u → wr.cell? ⟨g, o + j * 7 + k, none⟩ = some u := fun k u hu => by rw [Nat.add_assoc]; exact hcl _ _ (flL_get s.fl j x hx k u hu)
        have hjI : (j : Int) < (s.fl.length : Int) := by omega
        have hrq := HV.out.ok.rq x (List.mem_of_getElem? hx)
        obtain ⟨xid, ⟨xt, xp, xq, xr, xg⟩, xrel⟩ := x
        have x0 := cl 0 (.int .i64 xid) rfl
        have x1 := cl 1 (.string xt) rfl
        have x2 := cl 2 (.string xp) rfl
        have x3 := cl 3 (.int .i64 xq) rfl
        have x4 := cl 4 (.bool xr) rfl
        have x5 := cl 5 (.string xg) rfl
        have x6 := cl 6 (.bool xrel) rfl
        simp only [Nat.add_zero] at x0
        simp only at hrq
        have HX := Lib.hid hx
        have HFI := Lib.hid hf
        have hXb := (Below.refl wr.heap.size wr).alloc (Nat.le_refl _) (.cells #[.int .i64 xid, .string xt, .string xp, .int .i64 xq, .bool xr, .string xg, .bool xrel] 102)
        have hXk := blk_at wr #[.int .i64 xid, .string xt, .string xp, .int .i64 xq, .bool xr, .string xg, .bool xrel] 102 rfl
        obtain ⟨X, hXe⟩ : ∃ X, wr.alloc (.cells #[.int .i64 xid, .string xt, .string xp, .int .i64 xq, .bool xr, .string xg, .bool xrel] 102) = X := ⟨_, rfl⟩
        rw [hXe] at hXb hXk
        have HEX := Lib.hid hXe
        have y3 := hXk.cell 3
        have y6 := hXk.cell 6
        simp only [List.getElem?_toArray, List.getElem?_cons_zero, List.getElem?_cons_succ] at y3 y6
        have HVX := Lib.hid (HVW.out.below hXb)
        have HAX := Lib.hid (show DFlowAt B fp pb s X from ⟨_, _, _, _, HVX.out⟩)
        have HFX := Lib.hid (HFW.out.trans (Fr.of_below (S := refS) hXb HVW.out.sz))
        have HMX := Lib.hid (HMW.out.of_below hXb)
        have d3 := HVX.out.blk.cell 3
        have p4 := HMX.out.cell 4
        have p7 := HMX.out.cell 7
        simp only [refA, List.getElem?_toArray, List.getElem?_cons_zero, List.getElem?_cons_succ] at d3 p4 p7
        have HFA := Lib.hid (show fanswer s 4 id code = (if xq ≠ 1 then (s, [], 130) else ((goOn (fover s j)).1, (goOn (fover s j)).2, 0)) from by unfold fanswer; rw [if_neg (by rw [HON.out]; simp), hf]; simp only; rw [hx]; rfl)
        clear hcl cl e2 e3 hcm hnc hxi hf hx hXe hXb hXk n4 hnl
        clear hrq
        by_cases hq : xq = 1
        · subst hq
          have Hx := Lib.hid (show fanswer s 4 id code = ((goOn (fover s j)).1, (goOn (fover s j)).2, 0) from by rw [HFA.out]; simp [])
          go_wp2_with (first | (rw [HEX.out]) | (go_at_call 35; (with_reducible refine (rover_any B fp pb j s _ _ HAX.out HX.out).mono ?_); rintro e w2 ⟨rfl, hf2, hr2⟩; have H2 := Lib.hid hf2; have R2 := Lib.hid (HFX.out.trans hr2); clear hf2 hr2 d3 y3 y6) | (go_at_call 36; (with_reducible refine (rgoOn_fresh (w0 := w) H2.out (ROutAt.nil _ _) (by simp) hsz R2.out).mono ?_); rintro e w3 ⟨v3, rfl, h3, o3, r3⟩; have H3 := Lib.hid h3; have O3 := Lib.hid o3; have R3 := Lib.hid r3; clear h3 o3 r3) | (fail))
          go_ret2
          exact ransPost_mk Hx.out H3.out (by simpa using O3.out) R3.out
        · have hqe : (xq == 1) = false := by rw [beq_eq_false_iff_ne]; exact hq
          have hqn : (xq != 1) = true := by rw [bne_iff_ne]; exact hq
          have HQ := Lib.hid hq
          clear hq
          have Hx := Lib.hid (show fanswer s 4 id code = (s, [], 130) from by rw [HFA.out]; simp [HQ.out])
          go_wp2_with (first | (rw [HEX.out]) | (fail))
          go_ret2
          exact ransPost_mk Hx.out ⟨_, _, _, _, HVX.out⟩ (ROutAt.nil _ _) HFX.out
set_option maxHeartbeats 4000000 in
set_option maxRecDepth 100000 in
theorem rans_5 (B fp pb : Nat) (s : FS) (id code : Int) (w : World) (h : DFlowAt B fp pb s w) (hon : s.on = true) (hc0 : 0 ≤ code) (hc1 : code ≤ 255) :
    Calls Try.prog 19 #[.pointer (some ⟨fp, 0, none⟩), .agg (refA 5 id code)] w (RAnsPost B fp pb w (fanswer s 5 id code)) := by
  have hY := (Below.refl w.heap.size w).alloc (Nat.le_refl _) (.cells (refA 5 id code) 56)
  have hb := blk_at w (refA 5 id code) 56 rfl
  obtain ⟨Y, hYe⟩ : ∃ Y, w.alloc (.cells (refA 5 id code) 56) = Y := ⟨_, rfl⟩
  rw [hYe] at hY hb
  obtain ⟨vf, vw, vl, LL, hV⟩ := h.below hY
  obtain ⟨ao, cap, rfl, -⟩ := hV.fl.form
  have HV := Lib.hid hV
  have HF := Lib.hid (Fr.of_below (S := refS) hY h.sz)
  have HMB := Lib.hid hb
  have HE := Lib.hid hYe
  have hsz : B ≤ w.heap.size := h.sz
  have hwY : w.heap.size < Y.heap.size := hb.lt
  have n0 := hb.cell 0
  have n4 := hb.cell 4
  have n7 := hb.cell 7
  have c2 := hV.blk.cell 2
  have c3 := hV.blk.cell 3
  simp only [refA, List.getElem?_toArray, List.getElem?_cons_zero, List.getElem?_cons_succ] at n0 n4 n7 c2 c3
  rw [hon] at c2
  have HON := Lib.hid hon
  clear hon
  clear hYe hY hb hV h n7
  unfold refA
  go_enter Try.func19, Try.ntmps19
  go_wp2_with (first | (rw [show w.alloc (.cells #[.int .i64 5, .bool false, .bool false, .int .i64 0, .int .i64 id, .string ⟨#[]⟩, .string ⟨#[]⟩, .int .i64 code, .slice none 0 0, .slice none 0 0, .string ⟨#[]⟩, .bool false, .int .i64 0, .bool false, .string ⟨#[]⟩, .string ⟨#[]⟩, .int .i64 0, .bool false, .slice none 0 0, .bool false, .bool false, .string ⟨#[]⟩, .string ⟨#[]⟩, .bool false, .slice none 0 0, .slice none 0 0] 56) = Y from HE.out]) | (fail))
  clear c2 c3 n0 n4
  have hl64 := HV.out.ok.fl
  go_loopw [9, 10] (fun av iv wr => ∃ (i : Nat) (z : Int), av = .int .i64 z ∧ iv = .int .i64 i ∧ i ≤ s.fl.length ∧ Hid (z = atV ((s.fl.take i).findIdx? (fun x => x.id == id))) ∧ Hid (Below Y.heap.size Y wr)) (fun _ iv _ => ((s.fl.length : Int) - intOf iv).toNat)
  case atStart => exact ⟨0, -1, rfl, rfl, Nat.zero_le _, Lib.hid rfl, Lib.hid (Below.refl _ _)⟩
  case round =>
    obtain ⟨i, z, rfl, rfl, hi, hz, hW⟩ := hrel
    have HVW := Lib.hid (HV.out.below hW.out)
    have HMW := Lib.hid (HMB.out.of_below hW.out)
    have c3 := HVW.out.blk.cell 3
    have n4 := HMW.out.cell 4
    simp only [refA, List.getElem?_toArray, List.getElem?_cons_zero, List.getElem?_cons_succ] at n4 c3
    by_cases hil : i < s.fl.length
    · obtain ⟨x, hx⟩ : ∃ x, s.fl[i]? = some x := ⟨_, List.getElem?_eq_getElem hil⟩
      obtain ⟨g, o, cap', ev, -, -, -, -, hcl⟩ := HVW.out.fl.at (by omega)
      injection ev with e1 e2 e3
      subst e1
      have q0 := hcl (i * 7) (.int .i64 x.id) (flL_get s.fl i x hx 0 _ rfl)
      have hI : (i : Int) < (s.fl.length : Int) := by omega
      have II : Hid (i < s.fl.length) := Lib.hid hil
      clear hcl e2 e3 hil
      by_cases hxe : x.id = id
      · have hs := Lib.hid (take_at hx HV.out.ok.nd hxe)
        rw [hxe] at q0
        clear hx hxe
        go_wp2
        go_quiet (fail)
        go_wp2
        go_roundw
        case rel => exact ⟨i + 1, i, rfl, by go_num, by have := II.out; omega, Lib.hid (by rw [hs.out]; rfl), Lib.hid (hW.out.trans ⟨rfl, rfl, rfl, Nat.le_refl _, fun _ _ => rfl⟩)⟩
        case measure => have := II.out; simp [intOf]; omega
      · have hs := Lib.hid (take_not hx hxe)
        have hq : (x.id == id) = false := beq_eq_false_iff_ne.2 hxe
        clear hx hxe
        go_wp2
        go_quiet (fail)
        go_wp2
        go_roundw
        case rel => exact ⟨i + 1, z, rfl, by go_num, by have := II.out; omega, Lib.hid (by rw [hs.out]; exact hz.out), Lib.hid (hW.out.trans ⟨rfl, rfl, rfl, Nat.le_refl _, fun _ _ => rfl⟩)⟩
        case measure => have := II.out; simp [intOf]; omega
    · obtain rfl : i = s.fl.length := by omega
      have hnl : ¬ ((s.fl.length : Int) < (s.fl.length : Int)) := by omega
      rw [List.take_length] at hz
      have HFW := Lib.hid (HF.out.trans (Fr.of_below (S := refS) hW.out HV.out.sz))
      cases hf : s.fl.findIdx? (fun x => x.id == id) with
      | none =>
        have hz1 := hz.out
        rw [hf] at hz1
        obtain rfl : z = -1 := hz1
        have Hx := Lib.hid (show fanswer s 5 id code = (s, [], 146) from by unfold fanswer; rw [if_neg (by rw [HON.out]; simp), hf])
        clear hf
        go_wp2
        go_ret2
        exact ransPost_mk Hx.out ⟨_, _, _, _, HVW.out⟩ (ROutAt.nil _ _) HFW.out
      | some j =>
        have hz1 := hz.out
        rw [hf] at hz1
        obtain rfl : z = (j : Int) := hz1
        obtain ⟨x, hx, hxi⟩ := findIdx_lt hf
        have hin : j < s.fl.length := (List.getElem?_eq_some_iff.1 hx).1
        obtain ⟨g, o, cap', ev, hBg, hgl, hnc, hcm, hcl⟩ := HVW.out.fl.at (by omega)
        injection ev with e1 e2 e3
        subst e1
        have cl : ∀ k u, (ofC x)[k]? = some u → wr.cell? ⟨g, o + j * 7 + k, none⟩ = some u := fun k u hu => by rw [Nat.add_assoc]; exact hcl _ _ (flL_get s.fl j x hx k u hu)
        have hjI : (j : Int) < (s.fl.length : Int) := by omega
        have hrq := HV.out.ok.rq x (List.mem_of_getElem? hx)
        obtain ⟨xid, ⟨xt, xp, xq, xr, xg⟩, xrel⟩ := x
        have x0 := cl 0 (.int .i64 xid) rfl
        have x1 := cl 1 (.string xt) rfl
        have x2 := cl 2 (.string xp) rfl
        have x3 := cl 3 (.int .i64 xq) rfl
        have x4 := cl 4 (.bool xr) rfl
        have x5 := cl 5 (.string xg) rfl
        have x6 := cl 6 (.bool xrel) rfl
        simp only [Nat.add_zero] at x0
        simp only at hrq
        have HX := Lib.hid hx
        have HFI := Lib.hid hf
        have hXb := (Below.refl wr.heap.size wr).alloc (Nat.le_refl _) (.cells #[.int .i64 xid, .string xt, .string xp, .int .i64 xq, .bool xr, .string xg, .bool xrel] 102)
        have hXk := blk_at wr #[.int .i64 xid, .string xt, .string xp, .int .i64 xq, .bool xr, .string xg, .bool xrel] 102 rfl
        obtain ⟨X, hXe⟩ : ∃ X, wr.alloc (.cells #[.int .i64 xid, .string xt, .string xp, .int .i64 xq, .bool xr, .string xg, .bool xrel] 102) = X := ⟨_, rfl⟩
        rw [hXe] at hXb hXk
        have HEX := Lib.hid hXe
        have y3 := hXk.cell 3
        have y6 := hXk.cell 6
        simp only [List.getElem?_toArray, List.getElem?_cons_zero, List.getElem?_cons_succ] at y3 y6
        have HVX := Lib.hid (HVW.out.below hXb)
        have HAX := Lib.hid (show DFlowAt B fp pb s X from ⟨_, _, _, _, HVX.out⟩)
        have HFX := Lib.hid (HFW.out.trans (Fr.of_below (S := refS) hXb HVW.out.sz))
        have HMX := Lib.hid (HMW.out.of_below hXb)
        have d3 := HVX.out.blk.cell 3
        have p4 := HMX.out.cell 4
        have p7 := HMX.out.cell 7
        simp only [refA, List.getElem?_toArray, List.getElem?_cons_zero, List.getElem?_cons_succ] at d3 p4 p7
        have HFA := Lib.hid (show fanswer s 5 id code = (if xq ≠ 2 ∨ (128 ≤ code ∧ xrel = true) then (s, [], 130) else if 128 ≤ code then ((goOn (fover s j)).1, (goOn (fover s j)).2, 0) else ((goOn (frel s j)).1, .rel id :: (goOn (frel s j)).2, 0)) from by unfold fanswer; rw [if_neg (by rw [HON.out]; simp), hf]; simp only; rw [hx]; rfl)
        clear hcl cl e2 e3 hcm hnc hxi hf hx hXe hXb hXk n4 hnl
        clear hrq
        by_cases hq : xq = 2
        · subst hq
          by_cases hc : 128 ≤ code
          · cases xrel
            · have Hx := Lib.hid (show fanswer s 5 id code = ((goOn (fover s j)).1, (goOn (fover s j)).2, 0) from by rw [HFA.out]; simp [hc])
              go_wp2_with (first | (rw [HEX.out]) | (go_at_call 35; (with_reducible refine (rover_any B fp pb j s _ _ HAX.out HX.out).mono ?_); rintro e w2 ⟨rfl, hf2, hr2⟩; have H2 := Lib.hid hf2; have R2 := Lib.hid (HFX.out.trans hr2); clear hf2 hr2 d3 y3 y6) | (go_at_call 36; (with_reducible refine (rgoOn_fresh (w0 := w) H2.out (ROutAt.nil _ _) (by simp) hsz R2.out).mono ?_); rintro e w3 ⟨v3, rfl, h3, o3, r3⟩; have H3 := Lib.hid h3; have O3 := Lib.hid o3; have R3 := Lib.hid r3; clear h3 o3 r3) | (fail))
              go_ret2
              exact ransPost_mk Hx.out H3.out (by simpa using O3.out) R3.out
            · have Hx := Lib.hid (show fanswer s 5 id code = (s, [], 130) from by rw [HFA.out]; simp [hc])
              go_wp2_with (first | (rw [HEX.out]) | (fail))
              go_ret2
              exact ransPost_mk Hx.out ⟨_, _, _, _, HVX.out⟩ (ROutAt.nil _ _) HFX.out
          · have hcl : code < 128 := by omega
            have Hx := Lib.hid (show fanswer s 5 id code = ((goOn (frel s j)).1, .rel id :: (goOn (frel s j)).2, 0) from by rw [HFA.out]; simp [hc])
            obtain ⟨ib, hib, hib1⟩ := map_some info_bool
            have hgw : w.heap.size ≠ g := fun e => HV.out.fl.ne HMB.out (by decide) (by rw [e]; rfl)
            have qf6 := HVX.out.fl.frozen (o + j * 7 + 6)
            have q6 : X.cell? ⟨g, o + j * 7 + 6, none⟩ = some (.bool xrel) := by
              have := HVX.out.fl.cells _ _ (flL_get s.fl j _ HX.out 6 (.bool xrel) rfl)
              rw [← Nat.add_assoc] at this
              exact this
            go_wp2_with (first | (rw [HEX.out]) | (refine wpList_storeN rfl 4 (.tmp 114) (.const (.bool true)) rfl rfl g (o + j * 7 + 6) (.bool true) (.bool xrel) rfl rfl rfl hib hib1 q6 qf6 ?_; intro Z hZ; have hr := rflow_rel HVX.out HX.out rfl; rw [← Nat.add_assoc, hZ] at hr; have HVZ := Lib.hid hr.1; have HFZ := Lib.hid (HFX.out.trans hr.2); have hmz := HMX.out.other (R' := g) hgw (o + j * 7 + 6) (.bool true); rw [hZ] at hmz; have z4 := hmz.cell 4; simp only [refA, List.getElem?_toArray, List.getElem?_cons_zero, List.getElem?_cons_succ] at z4; have hzs : w.heap.size ≤ Z.heap.size := HFZ.out.below.size; have hal := (Below.refl Z.heap.size Z).alloc (Nat.le_refl _) (.cells (rpkA 6 false false 0 id ⟨#[]⟩ ⟨#[]⟩ (.slice none 0 0)) 56); have HNB := Lib.hid (blk_at Z (rpkA 6 false false 0 id ⟨#[]⟩ ⟨#[]⟩ (.slice none 0 0)) 56 rfl); have HVT := Lib.hid (HVZ.out.below hal); have HFT := Lib.hid (HFZ.out.trans (Fr.of_below (S := refS) hal (by omega))); obtain ⟨T, hT⟩ : ∃ T, Z.alloc (.cells (rpkA 6 false false 0 id ⟨#[]⟩ ⟨#[]⟩ (.slice none 0 0)) 56) = T := ⟨_, rfl⟩; rw [hT] at HNB HVT HFT; have HET := Lib.hid hT; have hxs : w.heap.size ≤ T.heap.size := HFT.out.below.size; clear hZ hr hmz hal hT q6 qf6 p4 p7 d3 y3 y6) | (refine wpList_buildTo rfl 56 _ rfl (some 118) rfl (rpkA 6 false false 0 id ⟨#[]⟩ ⟨#[]⟩ (.slice none 0 0)) (by kernel_rfl) ?_) | (refine rwpList_pkS _ (rpkA 6 false false 0 id ⟨#[]⟩ ⟨#[]⟩ (.slice none 0 0)) rfl rfl rfl rfl T HET.out ?_) | (refine rwpList_out _ _ w.heap.size (.slice none 0 0) [] (.rel id) (.slice none 0 0) Z.heap.size rfl rfl rfl rfl (ROutAt.nil _ _) rfl HNB.out hxs (by simp) ?_; intro v7 w7 ho7 hg7 hb7; have HO7 := Lib.hid ho7; have HA7 := Lib.hid (show DFlowAt B fp pb (frel s j) w7 from ⟨_, _, _, _, HVT.out.grown (Sl.nil w.heap.size _ _ _) hg7⟩); have HF7 := Lib.hid (HFT.out.grown hg7 (by omega) (fun k hk => by cases hk) (fun k ob hk _ => by cases hk)); clear ho7 hg7 hb7) | (go_at_call 36; (with_reducible refine (rgoOn_fresh (w0 := w) HA7.out HO7.out (by simp) hsz HF7.out).mono ?_); rintro e w3 ⟨v3, rfl, h3, o3, r3⟩; have H3 := Lib.hid h3; have O3 := Lib.hid o3; have R3 := Lib.hid r3; clear h3 o3 r3) | (fail))
            go_ret2
            exact ransPost_mk Hx.out H3.out (by simpa using O3.out) R3.out
        · have hqe : (xq == 2) = false := by rw [beq_eq_false_iff_ne]; exact hq
          have hqn : (xq != 2) = true := by rw [bne_iff_ne]; exact hq
          have HQ := Lib.hid hq
          clear hq
          have Hx := Lib.hid (show fanswer s 5 id code = (s, [], 130) from by rw [HFA.out]; simp [HQ.out])
          go_wp2_with (first | (rw [HEX.out]) | (fail))
          go_ret2
          exact ransPost_mk Hx.out ⟨_, _, _, _, HVX.out⟩ (ROutAt.nil _ _) HFX.out
set_option maxHeartbeats 4000000 in
set_option maxRecDepth 100000 in
theorem rans_7 (B fp pb : Nat) (s : FS) (id code : Int) (w : World) (h : DFlowAt B fp pb s w) (hon : s.on = true) (hc0 : 0 ≤ code) (hc1 : code ≤ 255) :
    Calls Try.prog 19 #[.pointer (some ⟨fp, 0, none⟩), .agg (refA 7 id code)] w (RAnsPost B fp pb w (fanswer s 7 id code)) := by
  have hY := (Below.refl w.heap.size w).alloc (Nat.le_refl _) (.cells (refA 7 id code) 56)
  have hb := blk_at w (refA 7 id code) 56 rfl
  obtain ⟨Y, hYe⟩ : ∃ Y, w.alloc (.cells (refA 7 id code) 56) = Y := ⟨_, rfl⟩
  rw [hYe] at hY hb
  obtain ⟨vf, vw, vl, LL, hV⟩ := h.below hY
  obtain ⟨ao, cap, rfl, -⟩ := hV.fl.form
  have HV := Lib.hid hV
  have HF := Lib.hid (Fr.of_below (S := refS) hY h.sz)
  have HMB := Lib.hid hb
  have HE := Lib.hid hYe
  have hsz : B ≤ w.heap.size := h.sz
  have hwY : w.heap.size < Y.heap.size := hb.lt
  have n0 := hb.cell 0
  have n4 := hb.cell 4
  have n7 := hb.cell 7
  have c2 := hV.blk.cell 2
  have c3 := hV.blk.cell 3
  simp only [refA, List.getElem?_toArray, List.getElem?_cons_zero, List.getElem?_cons_succ] at n0 n4 n7 c2 c3
  rw [hon] at c2
  have HON := Lib.hid hon
  clear hon
  clear hYe hY hb hV h n7
  unfold refA
  go_enter Try.func19, Try.ntmps19
  go_wp2_with (first | (rw [show w.alloc (.cells #[.int .i64 7, .bool false, .bool false, .int .i64 0, .int .i64 id, .string ⟨#[]⟩, .string ⟨#[]⟩, .int .i64 code, .slice none 0 0, .slice none 0 0, .string ⟨#[]⟩, .bool false, .int .i64 0, .bool false, .string ⟨#[]⟩, .string ⟨#[]⟩, .int .i64 0, .bool false, .slice none 0 0, .bool false, .bool false, .string ⟨#[]⟩, .string ⟨#[]⟩, .bool false, .slice none 0 0, .slice none 0 0] 56) = Y from HE.out]) | (fail))
  clear c2 c3 n0 n4
  have hl64 := HV.out.ok.fl
  go_loopw [9, 10] (fun av iv wr => ∃ (i : Nat) (z : Int), av = .int .i64 z ∧ iv = .int .i64 i ∧ i ≤ s.fl.length ∧ Hid (z = atV ((s.fl.take i).findIdx? (fun x => x.id == id))) ∧ Hid (Below Y.heap.size Y wr)) (fun _ iv _ => ((s.fl.length : Int) - intOf iv).toNat)
  case atStart => exact ⟨0, -1, rfl, rfl, Nat.zero_le _, Lib.hid rfl, Lib.hid (Below.refl _ _)⟩
  case round =>
    obtain ⟨i, z, rfl, rfl, hi, hz, hW⟩ := hrel
    have HVW := Lib.hid (HV.out.below hW.out)
    have HMW := Lib.hid (HMB.out.of_below hW.out)
    have c3 := HVW.out.blk.cell 3
    have n4 := HMW.out.cell 4
    simp only [refA, List.getElem?_toArray, List.getElem?_cons_zero, List.getElem?_cons_succ] at n4 c3
    by_cases hil : i < s.fl.length
    · obtain ⟨x, hx⟩ : ∃ x, s.fl[i]? = some x := ⟨_, List.getElem?_eq_getElem hil⟩
      obtain ⟨g, o, cap', ev, -, -, -, -, hcl⟩ := HVW.out.fl.at (by omega)
      injection ev with e1 e2 e3
      subst e1
      have q0 := hcl (i * 7) (.int .i64 x.id) (flL_get s.fl i x hx 0 _ rfl)
      have hI : (i : Int) < (s.fl.length : Int) := by omega
      have II : Hid (i < s.fl.length) := Lib.hid hil
      clear hcl e2 e3 hil
      by_cases hxe : x.id = id
      · have hs := Lib.hid (take_at hx HV.out.ok.nd hxe)
        rw [hxe] at q0
        clear hx hxe
        go_wp2
        go_quiet (fail)
        go_wp2
        go_roundw
        case rel => exact ⟨i + 1, i, rfl, by go_num, by have := II.out; omega, Lib.hid (by rw [hs.out]; rfl), Lib.hid (hW.out.trans ⟨rfl, rfl, rfl, Nat.le_refl _, fun _ _ => rfl⟩)⟩
        case measure => have := II.out; simp [intOf]; omega
      · have hs := Lib.hid (take_not hx hxe)
        have hq : (x.id == id) = false := beq_eq_false_iff_ne.2 hxe
        clear hx hxe
        go_wp2
        go_quiet (fail)
        go_wp2
        go_roundw
        case rel => exact ⟨i + 1, z, rfl, by go_num, by have := II.out; omega, Lib.hid (by rw [hs.out]; exact hz.out), Lib.hid (hW.out.trans ⟨rfl, rfl, rfl, Nat.le_refl _, fun _ _ => rfl⟩)⟩
        case measure => have := II.out; simp [intOf]; omega
    · obtain rfl : i = s.fl.length := by omega
      have hnl : ¬ ((s.fl.length : Int) < (s.fl.length : Int)) := by omega
      rw [List.take_length] at hz
      have HFW := Lib.hid (HF.out.trans (Fr.of_below (S := refS) hW.out HV.out.sz))
      cases hf : s.fl.findIdx? (fun x => x.id == id) with
      | none =>
        have hz1 := hz.out
        rw [hf] at hz1
        obtain rfl : z = -1 := hz1
        have Hx := Lib.hid (show fanswer s 7 id code = (s, [], 146) from by unfold fanswer; rw [if_neg (by rw [HON.out]; simp), hf])
        clear hf
        go_wp2
        go_ret2
        exact ransPost_mk Hx.out ⟨_, _, _, _, HVW.out⟩ (ROutAt.nil _ _) HFW.out
      | some j =>
        have hz1 := hz.out
        rw [hf] at hz1
        obtain rfl : z = (j : Int) := hz1
        obtain ⟨x, hx, hxi⟩ := findIdx_lt hf
        have hin : j < s.fl.length := (List.getElem?_eq_some_iff.1 hx).1
        obtain ⟨g, o, cap', ev, hBg, hgl, hnc, hcm, hcl⟩ := HVW.out.fl.at (by omega)
        injection ev with e1 e2 e3
        subst e1
        have cl : ∀ k u, (ofC x)[k]? = some u → wr.cell? ⟨g, o + j * 7 + k, none⟩ = some u := fun k u hu => by rw [Nat.add_assoc]; exact hcl _ _ (flL_get s.fl j x hx k u hu)
        have hjI : (j : Int) < (s.fl.length : Int) := by omega
        have hrq := HV.out.ok.rq x (List.mem_of_getElem? hx)
        obtain ⟨xid, ⟨xt, xp, xq, xr, xg⟩, xrel⟩ := x
        have x0 := cl 0 (.int .i64 xid) rfl
        have x1 := cl 1 (.string xt) rfl
        have x2 := cl 2 (.string xp) rfl
        have x3 := cl 3 (.int .i64 xq) rfl
        have x4 := cl 4 (.bool xr) rfl
        have x5 := cl 5 (.string xg) rfl
        have x6 := cl 6 (.bool xrel) rfl
        simp only [Nat.add_zero] at x0
        simp only at hrq
        have HX := Lib.hid hx
        have HFI := Lib.hid hf
        have hXb := (Below.refl wr.heap.size wr).alloc (Nat.le_refl _) (.cells #[.int .i64 xid, .string xt, .string xp, .int .i64 xq, .bool xr, .string xg, .bool xrel] 102)
        have hXk := blk_at wr #[.int .i64 xid, .string xt, .string xp, .int .i64 xq, .bool xr, .string xg, .bool xrel] 102 rfl
        obtain ⟨X, hXe⟩ : ∃ X, wr.alloc (.cells #[.int .i64 xid, .string xt, .string xp, .int .i64 xq, .bool xr, .string xg, .bool xrel] 102) = X := ⟨_, rfl⟩
        rw [hXe] at hXb hXk
        have HEX := Lib.hid hXe
        have y3 := hXk.cell 3
        have y6 := hXk.cell 6
        simp only [List.getElem?_toArray, List.getElem?_cons_zero, List.getElem?_cons_succ] at y3 y6
        have HVX := Lib.hid (HVW.out.below hXb)
        have HAX := Lib.hid (show DFlowAt B fp pb s X from ⟨_, _, _, _, HVX.out⟩)
        have HFX := Lib.hid (HFW.out.trans (Fr.of_below (S := refS) hXb HVW.out.sz))
        have HMX := Lib.hid (HMW.out.of_below hXb)
        have d3 := HVX.out.blk.cell 3
        have p4 := HMX.out.cell 4
        have p7 := HMX.out.cell 7
        simp only [refA, List.getElem?_toArray, List.getElem?_cons_zero, List.getElem?_cons_succ] at d3 p4 p7
        have HFA := Lib.hid (show fanswer s 7 id code = (if xrel = false then (s, [], 130) else ((goOn (fover s j)).1, (goOn (fover s j)).2, 0)) from by unfold fanswer; rw [if_neg (by rw [HON.out]; simp), hf]; simp only; rw [hx]; rfl)
        clear hcl cl e2 e3 hcm hnc hxi hf hx hXe hXb hXk n4 hnl
        by_cases hq : xq = 2
        · subst hq
          cases xrel
          · have Hx := Lib.hid (show fanswer s 7 id code = (s, [], 130) from by rw [HFA.out]; simp [])
            go_wp2_with (first | (rw [HEX.out]) | (fail))
            go_ret2
            exact ransPost_mk Hx.out ⟨_, _, _, _, HVX.out⟩ (ROutAt.nil _ _) HFX.out
          · have Hx := Lib.hid (show fanswer s 7 id code = ((goOn (fover s j)).1, (goOn (fover s j)).2, 0) from by rw [HFA.out]; simp [])
            go_wp2_with (first | (rw [HEX.out]) | (go_at_call 35; (with_reducible refine (rover_any B fp pb j s _ _ HAX.out HX.out).mono ?_); rintro e w2 ⟨rfl, hf2, hr2⟩; have H2 := Lib.hid hf2; have R2 := Lib.hid (HFX.out.trans hr2); clear hf2 hr2 d3 y3 y6) | (go_at_call 36; (with_reducible refine (rgoOn_fresh (w0 := w) H2.out (ROutAt.nil _ _) (by simp) hsz R2.out).mono ?_); rintro e w3 ⟨v3, rfl, h3, o3, r3⟩; have H3 := Lib.hid h3; have O3 := Lib.hid o3; have R3 := Lib.hid r3; clear h3 o3 r3) | (fail))
            go_ret2
            exact ransPost_mk Hx.out H3.out (by simpa using O3.out) R3.out
        · obtain rfl : xrel = false := by
            cases xrel with
            | false => rfl
            | true => exact absurd (hrq rfl) hq
          have hqe : (xq == 2) = false := by rw [beq_eq_false_iff_ne]; exact hq
          have hqn : (xq != 2) = true := by rw [bne_iff_ne]; exact hq
          have HQ := Lib.hid hq
          clear hq
          have Hx := Lib.hid (show fanswer s 7 id code = (s, [], 130) from by rw [HFA.out]; simp [])
          go_wp2_with (first | (rw [HEX.out]) | (fail))
          go_ret2
          exact ransPost_mk Hx.out ⟨_, _, _, _, HVX.out⟩ (ROutAt.nil _ _) HFX.out
theorem ranswer_any (B fp pb : Nat) (s : FS) (k id code : Int) (w : World) (h : DFlowAt B fp pb s w) (hc0 : 0 ≤ code) (hc1 : code ≤ 255) :
    Calls Try.prog 19 #[.pointer (some ⟨fp, 0, none⟩), .agg (refA k id code)] w (RAnsPost B fp pb w (fanswer s k id code)) := by
  cases hon : s.on with
  | false => exact rans_off B fp pb s k id code w h hon
  | true =>
    by_cases h4 : k = 4
    · subst h4; exact rans_4 B fp pb s id code w h hon hc0 hc1
    by_cases h5 : k = 5
    · subst h5; exact rans_5 B fp pb s id code w h hon hc0 hc1
    by_cases h7 : k = 7
    · subst h7; exact rans_7 B fp pb s id code w h hon hc0 hc1
    exact rans_kind B fp pb s k id code w h hon h4 h5 h7
end Go.Proofs.Ytnclobnnnihpfaa
