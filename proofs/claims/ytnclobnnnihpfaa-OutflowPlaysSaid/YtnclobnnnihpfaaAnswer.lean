/- outflow.Flow's Answer. -/
import Derived.Test.YtnclobnnnihpfaaAnsP
namespace Go.Proofs.Ytnclobnnnihpfaa
set_option linter.unusedVariables false
open Go.RowKit Go.Maps

theorem info_bool : (Try.prog.info? 4).map (fun i => i.size) = some 1 := by kernel_rfl
theorem Sl.frozen {B n size : Nat} {w : World} {e : TypeId} {xs : List Value} {g o cap : Nat} (h : Sl B w e size (.slice (some ⟨g, o, none⟩) n cap) n xs) (j : Nat) : w.frozen? ⟨g, j, none⟩ = false := by
  rcases h.2 with ⟨c, _⟩ | ⟨g', o', cap', cur, hv, hb, hg, h4, h5, h6, h7⟩
  · cases c
  · cases hv
    exact Lib.frozen_of_heap hg j
/-- What Answer comes to. -/
def AnsPost (B fp pb mb : Nat) (w : World) (r : FS × List OP × Int) (e : Ending) (w' : World) : Prop := ∃ v', e = .returned (.tuple #[v', .int .u8 r.2.2]) ∧ FlowAt B fp pb mb r.1 w' ∧ OutAt w.heap.size w' v' r.2.1 ∧ Fr B (flowS mb) w w'
theorem ansPost_mk {B fp pb mb : Nat} {w w' : World} {s : FS} {L : List OP} {c : Int} {v' : Value} {r : FS × List OP × Int} (hr : r = (s, L, c)) (hf : FlowAt B fp pb mb s w') (ho : OutAt w.heap.size w' v' L) (hfr : Fr B (flowS mb) w w') : AnsPost B fp pb mb w r (.returned (.tuple #[v', .int .u8 c])) w' := by
  subst hr
  exact ⟨v', rfl, hf, ho, hfr⟩
/-- goOn behind what is new. -/
theorem goOn_fresh {B fp pb mb : Nat} {s : FS} {v0 : Value} {L0 : List OP} {w0 w : World} (h : FlowAt B fp pb mb s w) (ho : OutAt w0.heap.size w v0 L0) (hl : L0.length ≤ 65) (hB : B ≤ w0.heap.size) (hfr : Fr B (flowS mb) w0 w) :
    Calls Try.prog 30 #[.pointer (some ⟨fp, 0, none⟩), v0] w fun e w' => ∃ v', e = .returned v' ∧ FlowAt B fp pb mb (goOn s).1 w' ∧ OutAt w0.heap.size w' v' (L0 ++ (goOn s).2) ∧ Fr B (flowS mb) w0 w' := by
  refine (goOn_any B w0.heap.size fp pb mb s v0 L0 w h ho hl hB hfr.below.size).mono ?_
  rintro e w' ⟨v', rfl, h1, h2, h3⟩
  refine ⟨v', rfl, h1, h2, hfr.then h3 ?_⟩
  rintro k o hk (c | c)
  · exact c
  · obtain ⟨xs, hs⟩ := ho.sl
    have := (hs.lt k c).1
    omega
set_option maxHeartbeats 4000000 in
set_option maxRecDepth 100000 in
theorem fans_off (B fp pb mb : Nat) (s : FS) (k id code : Int) (w : World) (h : FlowAt B fp pb mb s w) (hon : s.on = false) :
    Calls Try.prog 12 #[.pointer (some ⟨fp, 0, none⟩), .agg (ansA k id code)] w (AnsPost B fp pb mb w (fanswer s k id code)) := by
  have hY := (Below.refl w.heap.size w).alloc (Nat.le_refl _) (.cells (ansA k id code) 37)
  have hb := blk_at w (ansA k id code) 37 rfl
  obtain ⟨Y, hYe⟩ : ∃ Y, w.alloc (.cells (ansA k id code) 37) = Y := ⟨_, rfl⟩
  rw [hYe] at hY hb
  obtain ⟨vf, vw, hV⟩ := h.below hY
  have HV := Lib.hid hV
  have HF := Lib.hid (Fr.of_below (S := flowS mb) hY h.sz)
  have HMB := Lib.hid hb
  have HE := Lib.hid hYe
  have hsz : B ≤ w.heap.size := h.sz
  have hwY : w.heap.size < Y.heap.size := hb.lt
  have n0 := hb.cell 0
  have n4 := hb.cell 4
  have c2 := hV.blk.cell 2
  have c3 := hV.blk.cell 3
  simp only [ansA, List.getElem?_toArray, List.getElem?_cons_zero, List.getElem?_cons_succ] at n0 n4 c2 c3
  have Hx := Lib.hid (show fanswer s k id code = (s, [], 130) from by unfold fanswer; rw [if_pos (.inl hon)])
  rw [hon] at c2
  clear hYe hY hb hV h hon c3
  unfold ansA
  go_enter Try.func12, Try.ntmps12
  go_wp2_with (first | (rw [show w.alloc (.cells #[.int .i64 k, .bool false, .bool false, .int .i64 0, .int .i64 id, .string ⟨#[]⟩, .string ⟨#[]⟩, .int .u8 code, .slice none 0 0, .slice none 0 0, .string ⟨#[]⟩, .bool false, .int .i64 0, .bool false, .string ⟨#[]⟩, .string ⟨#[]⟩, .int .i64 0, .bool false, .slice none 0 0, .bool false, .bool false, .string ⟨#[]⟩, .string ⟨#[]⟩, .bool false, .slice none 0 0, .slice none 0 0] 37) = Y from HE.out]) | (fail))
  go_ret2
  exact ansPost_mk Hx.out ⟨_, _, HV.out⟩ (OutAt.nil _ _) HF.out
set_option maxHeartbeats 4000000 in
set_option maxRecDepth 100000 in
theorem fans_kind (B fp pb mb : Nat) (s : FS) (k id code : Int) (w : World) (h : FlowAt B fp pb mb s w) (hon : s.on = true) (h4 : k ≠ 4) (h5 : k ≠ 5) (h7 : k ≠ 7) :
    Calls Try.prog 12 #[.pointer (some ⟨fp, 0, none⟩), .agg (ansA k id code)] w (AnsPost B fp pb mb w (fanswer s k id code)) := by
  have hY := (Below.refl w.heap.size w).alloc (Nat.le_refl _) (.cells (ansA k id code) 37)
  have hb := blk_at w (ansA k id code) 37 rfl
  obtain ⟨Y, hYe⟩ : ∃ Y, w.alloc (.cells (ansA k id code) 37) = Y := ⟨_, rfl⟩
  rw [hYe] at hY hb
  obtain ⟨vf, vw, hV⟩ := h.below hY
  have HV := Lib.hid hV
  have HF := Lib.hid (Fr.of_below (S := flowS mb) hY h.sz)
  have HMB := Lib.hid hb
  have HE := Lib.hid hYe
  have hsz : B ≤ w.heap.size := h.sz
  have hwY : w.heap.size < Y.heap.size := hb.lt
  have n0 := hb.cell 0
  have n4 := hb.cell 4
  have c2 := hV.blk.cell 2
  have c3 := hV.blk.cell 3
  simp only [ansA, List.getElem?_toArray, List.getElem?_cons_zero, List.getElem?_cons_succ] at n0 n4 c2 c3
  have Hx := Lib.hid (show fanswer s k id code = (s, [], 130) from by unfold fanswer; rw [if_pos (.inr ⟨h4, h5, h7⟩)])
  rw [hon] at c2
  have e4 : (k == 4) = false := by rw [beq_eq_false_iff_ne]; exact h4
  have e5 : (k == 5) = false := by rw [beq_eq_false_iff_ne]; exact h5
  have e7 : (k == 7) = false := by rw [beq_eq_false_iff_ne]; exact h7
  have b4 : (k != 4) = true := by rw [bne_iff_ne]; exact h4
  have b5 : (k != 5) = true := by rw [bne_iff_ne]; exact h5
  have b7 : (k != 7) = true := by rw [bne_iff_ne]; exact h7
  clear hYe hY hb hV h hon c3 h4 h5 h7
  unfold ansA
  go_enter Try.func12, Try.ntmps12
  go_wp2_with (first | (rw [show w.alloc (.cells #[.int .i64 k, .bool false, .bool false, .int .i64 0, .int .i64 id, .string ⟨#[]⟩, .string ⟨#[]⟩, .int .u8 code, .slice none 0 0, .slice none 0 0, .string ⟨#[]⟩, .bool false, .int .i64 0, .bool false, .string ⟨#[]⟩, .string ⟨#[]⟩, .int .i64 0, .bool false, .slice none 0 0, .bool false, .bool false, .string ⟨#[]⟩, .string ⟨#[]⟩, .bool false, .slice none 0 0, .slice none 0 0] 37) = Y from HE.out]) | (fail))
  go_ret2
  exact ansPost_mk Hx.out ⟨_, _, HV.out⟩ (OutAt.nil _ _) HF.out
theorem ans_idx (B b : Nat) (v : Value) (l : List OF) (id : Int) (Y : World) (hl : l.length ≤ 64) (h : Sl B Y 45 7 v l.length (flL l)) (n4 : Y.cell? ⟨b, 4, none⟩ = some (.int .i64 id)) (hb : b < Y.heap.size) :
    Calls Try.prog 27 #[v, .func (.func 28) #[] #[.pointer (some ⟨b, 0, none⟩)]] Y fun e w' => (∃ z : Int, e = .returned (.int .i64 z) ∧ ((z = -1 ∧ l.findIdx? (fun x => x.id == id) = none) ∨ (∃ (k : Nat), z = k ∧ l.findIdx? (fun x => x.id == id) = some k))) ∧ Below Y.heap.size Y w' := by
  refine (findex_any 28 #[] #[.pointer (some ⟨b, 0, none⟩)] (fun x => x.id == id) B v l Y hl h (enters_of Try.func28 (by kernel_rfl) rfl) (fun x W hW => ?_)).mono ?_
  · exact ans1_any b id x W ((hW.cell (p := ⟨b, 4, none⟩) hb).trans n4) (Nat.lt_of_lt_of_le hb hW.size)
  · rintro e w' ⟨z, h1, h2, h3⟩
    exact ⟨⟨z, h1, h2⟩, h3⟩
set_option maxHeartbeats 4000000 in
set_option maxRecDepth 100000 in
theorem fans_none4 (B fp pb mb : Nat) (s : FS) (id code : Int) (w : World) (h : FlowAt B fp pb mb s w) (hon : s.on = true) (hn : s.fl.findIdx? (fun x => x.id == id) = none) :
    Calls Try.prog 12 #[.pointer (some ⟨fp, 0, none⟩), .agg (ansA 4 id code)] w (AnsPost B fp pb mb w (fanswer s 4 id code)) := by
  have hY := (Below.refl w.heap.size w).alloc (Nat.le_refl _) (.cells (ansA 4 id code) 37)
  have hb := blk_at w (ansA 4 id code) 37 rfl
  obtain ⟨Y, hYe⟩ : ∃ Y, w.alloc (.cells (ansA 4 id code) 37) = Y := ⟨_, rfl⟩
  rw [hYe] at hY hb
  obtain ⟨vf, vw, hV⟩ := h.below hY
  have HV := Lib.hid hV
  have HF := Lib.hid (Fr.of_below (S := flowS mb) hY h.sz)
  have HMB := Lib.hid hb
  have HE := Lib.hid hYe
  have hsz : B ≤ w.heap.size := h.sz
  have hwY : w.heap.size < Y.heap.size := hb.lt
  have n0 := hb.cell 0
  have n4 := hb.cell 4
  have c2 := hV.blk.cell 2
  have c3 := hV.blk.cell 3
  simp only [ansA, List.getElem?_toArray, List.getElem?_cons_zero, List.getElem?_cons_succ] at n0 n4 c2 c3
  have Hx := Lib.hid (show fanswer s 4 id code = (s, [], 146) from by unfold fanswer; rw [if_neg (by rw [hon]; simp), hn])
  have CI := Lib.hid ((ans_idx B w.heap.size vf s.fl id Y HV.out.ok.fl HV.out.fl n4 hwY).mono (R' := fun e w' => e = .returned (.int .i64 (-1)) ∧ Below Y.heap.size Y w') (by
    rintro e w' ⟨⟨z, he, hz⟩, hb⟩
    rcases hz with ⟨rfl, _⟩ | ⟨k, rfl, hk⟩
    · exact ⟨he, hb⟩
    · rw [hn] at hk; cases hk))
  rw [hon] at c2
  obtain ⟨ao, cap, e3, -⟩ := HV.out.fl.form
  rw [e3] at CI
  rw [e3] at c3
  have E3 := Lib.hid e3
  clear e3 hYe hY hb hV h hon hn
  unfold ansA
  go_enter Try.func12, Try.ntmps12
  go_wp2_with (first | (rw [show w.alloc (.cells #[.int .i64 4, .bool false, .bool false, .int .i64 0, .int .i64 id, .string ⟨#[]⟩, .string ⟨#[]⟩, .int .u8 code, .slice none 0 0, .slice none 0 0, .string ⟨#[]⟩, .bool false, .int .i64 0, .bool false, .string ⟨#[]⟩, .string ⟨#[]⟩, .int .i64 0, .bool false, .slice none 0 0, .bool false, .bool false, .string ⟨#[]⟩, .string ⟨#[]⟩, .bool false, .slice none 0 0, .slice none 0 0] 37) = Y from HE.out]) | (go_at_call 27; (with_reducible refine CI.out.mono ?_); rintro e w1 ⟨rfl, hb1⟩; have HB1 := Lib.hid hb1; clear hb1) | (fail))
  go_ret2
  exact ansPost_mk Hx.out ⟨_, _, HV.out.below HB1.out⟩ (OutAt.nil _ _) (HF.out.trans (Fr.of_below HB1.out HV.out.sz))
set_option maxHeartbeats 4000000 in
set_option maxRecDepth 100000 in
theorem fans_none5 (B fp pb mb : Nat) (s : FS) (id code : Int) (w : World) (h : FlowAt B fp pb mb s w) (hon : s.on = true) (hn : s.fl.findIdx? (fun x => x.id == id) = none) :
    Calls Try.prog 12 #[.pointer (some ⟨fp, 0, none⟩), .agg (ansA 5 id code)] w (AnsPost B fp pb mb w (fanswer s 5 id code)) := by
  have hY := (Below.refl w.heap.size w).alloc (Nat.le_refl _) (.cells (ansA 5 id code) 37)
  have hb := blk_at w (ansA 5 id code) 37 rfl
  obtain ⟨Y, hYe⟩ : ∃ Y, w.alloc (.cells (ansA 5 id code) 37) = Y := ⟨_, rfl⟩
  rw [hYe] at hY hb
  obtain ⟨vf, vw, hV⟩ := h.below hY
  have HV := Lib.hid hV
  have HF := Lib.hid (Fr.of_below (S := flowS mb) hY h.sz)
  have HMB := Lib.hid hb
  have HE := Lib.hid hYe
  have hsz : B ≤ w.heap.size := h.sz
  have hwY : w.heap.size < Y.heap.size := hb.lt
  have n0 := hb.cell 0
  have n4 := hb.cell 4
  have c2 := hV.blk.cell 2
  have c3 := hV.blk.cell 3
  simp only [ansA, List.getElem?_toArray, List.getElem?_cons_zero, List.getElem?_cons_succ] at n0 n4 c2 c3
  have Hx := Lib.hid (show fanswer s 5 id code = (s, [], 146) from by unfold fanswer; rw [if_neg (by rw [hon]; simp), hn])
  have CI := Lib.hid ((ans_idx B w.heap.size vf s.fl id Y HV.out.ok.fl HV.out.fl n4 hwY).mono (R' := fun e w' => e = .returned (.int .i64 (-1)) ∧ Below Y.heap.size Y w') (by
    rintro e w' ⟨⟨z, he, hz⟩, hb⟩
    rcases hz with ⟨rfl, _⟩ | ⟨k, rfl, hk⟩
    · exact ⟨he, hb⟩
    · rw [hn] at hk; cases hk))
  rw [hon] at c2
  obtain ⟨ao, cap, e3, -⟩ := HV.out.fl.form
  rw [e3] at CI
  rw [e3] at c3
  have E3 := Lib.hid e3
  clear e3 hYe hY hb hV h hon hn
  unfold ansA
  go_enter Try.func12, Try.ntmps12
  go_wp2_with (first | (rw [show w.alloc (.cells #[.int .i64 5, .bool false, .bool false, .int .i64 0, .int .i64 id, .string ⟨#[]⟩, .string ⟨#[]⟩, .int .u8 code, .slice none 0 0, .slice none 0 0, .string ⟨#[]⟩, .bool false, .int .i64 0, .bool false, .string ⟨#[]⟩, .string ⟨#[]⟩, .int .i64 0, .bool false, .slice none 0 0, .bool false, .bool false, .string ⟨#[]⟩, .string ⟨#[]⟩, .bool false, .slice none 0 0, .slice none 0 0] 37) = Y from HE.out]) | (go_at_call 27; (with_reducible refine CI.out.mono ?_); rintro e w1 ⟨rfl, hb1⟩; have HB1 := Lib.hid hb1; clear hb1) | (fail))
  go_ret2
  exact ansPost_mk Hx.out ⟨_, _, HV.out.below HB1.out⟩ (OutAt.nil _ _) (HF.out.trans (Fr.of_below HB1.out HV.out.sz))
set_option maxHeartbeats 4000000 in
set_option maxRecDepth 100000 in
theorem fans_none7 (B fp pb mb : Nat) (s : FS) (id code : Int) (w : World) (h : FlowAt B fp pb mb s w) (hon : s.on = true) (hn : s.fl.findIdx? (fun x => x.id == id) = none) :
    Calls Try.prog 12 #[.pointer (some ⟨fp, 0, none⟩), .agg (ansA 7 id code)] w (AnsPost B fp pb mb w (fanswer s 7 id code)) := by
  have hY := (Below.refl w.heap.size w).alloc (Nat.le_refl _) (.cells (ansA 7 id code) 37)
  have hb := blk_at w (ansA 7 id code) 37 rfl
  obtain ⟨Y, hYe⟩ : ∃ Y, w.alloc (.cells (ansA 7 id code) 37) = Y := ⟨_, rfl⟩
  rw [hYe] at hY hb
  obtain ⟨vf, vw, hV⟩ := h.below hY
  have HV := Lib.hid hV
  have HF := Lib.hid (Fr.of_below (S := flowS mb) hY h.sz)
  have HMB := Lib.hid hb
  have HE := Lib.hid hYe
  have hsz : B ≤ w.heap.size := h.sz
  have hwY : w.heap.size < Y.heap.size := hb.lt
  have n0 := hb.cell 0
  have n4 := hb.cell 4
  have c2 := hV.blk.cell 2
  have c3 := hV.blk.cell 3
  simp only [ansA, List.getElem?_toArray, List.getElem?_cons_zero, List.getElem?_cons_succ] at n0 n4 c2 c3
  have Hx := Lib.hid (show fanswer s 7 id code = (s, [], 146) from by unfold fanswer; rw [if_neg (by rw [hon]; simp), hn])
  have CI := Lib.hid ((ans_idx B w.heap.size vf s.fl id Y HV.out.ok.fl HV.out.fl n4 hwY).mono (R' := fun e w' => e = .returned (.int .i64 (-1)) ∧ Below Y.heap.size Y w') (by
    rintro e w' ⟨⟨z, he, hz⟩, hb⟩
    rcases hz with ⟨rfl, _⟩ | ⟨k, rfl, hk⟩
    · exact ⟨he, hb⟩
    · rw [hn] at hk; cases hk))
  rw [hon] at c2
  obtain ⟨ao, cap, e3, -⟩ := HV.out.fl.form
  rw [e3] at CI
  rw [e3] at c3
  have E3 := Lib.hid e3
  clear e3 hYe hY hb hV h hon hn
  unfold ansA
  go_enter Try.func12, Try.ntmps12
  go_wp2_with (first | (rw [show w.alloc (.cells #[.int .i64 7, .bool false, .bool false, .int .i64 0, .int .i64 id, .string ⟨#[]⟩, .string ⟨#[]⟩, .int .u8 code, .slice none 0 0, .slice none 0 0, .string ⟨#[]⟩, .bool false, .int .i64 0, .bool false, .string ⟨#[]⟩, .string ⟨#[]⟩, .int .i64 0, .bool false, .slice none 0 0, .bool false, .bool false, .string ⟨#[]⟩, .string ⟨#[]⟩, .bool false, .slice none 0 0, .slice none 0 0] 37) = Y from HE.out]) | (go_at_call 27; (with_reducible refine CI.out.mono ?_); rintro e w1 ⟨rfl, hb1⟩; have HB1 := Lib.hid hb1; clear hb1) | (fail))
  go_ret2
  exact ansPost_mk Hx.out ⟨_, _, HV.out.below HB1.out⟩ (OutAt.nil _ _) (HF.out.trans (Fr.of_below HB1.out HV.out.sz))
set_option maxHeartbeats 4000000 in
set_option maxRecDepth 100000 in
theorem fans_ack_bad (B fp pb mb : Nat) (s : FS) (id code : Int) (w : World) (h : FlowAt B fp pb mb s w) (hon : s.on = true) (i : Nat) (x : OF) (hn : s.fl.findIdx? (fun x => x.id == id) = some i) (hx : s.fl[i]? = some x) (hq : x.m.qos ≠ 1) :
    Calls Try.prog 12 #[.pointer (some ⟨fp, 0, none⟩), .agg (ansA 4 id code)] w (AnsPost B fp pb mb w (fanswer s 4 id code)) := by
  have hY := (Below.refl w.heap.size w).alloc (Nat.le_refl _) (.cells (ansA 4 id code) 37)
  have hb := blk_at w (ansA 4 id code) 37 rfl
  obtain ⟨Y, hYe⟩ : ∃ Y, w.alloc (.cells (ansA 4 id code) 37) = Y := ⟨_, rfl⟩
  rw [hYe] at hY hb
  obtain ⟨vf, vw, hV⟩ := h.below hY
  have HV := Lib.hid hV
  have HF := Lib.hid (Fr.of_below (S := flowS mb) hY h.sz)
  have HMB := Lib.hid hb
  have HE := Lib.hid hYe
  have hsz : B ≤ w.heap.size := h.sz
  have hwY : w.heap.size < Y.heap.size := hb.lt
  have n0 := hb.cell 0
  have n4 := hb.cell 4
  have c2 := hV.blk.cell 2
  have c3 := hV.blk.cell 3
  simp only [ansA, List.getElem?_toArray, List.getElem?_cons_zero, List.getElem?_cons_succ] at n0 n4 c2 c3
  have Hx := Lib.hid (show fanswer s 4 id code = (s, [], 130) from by unfold fanswer; simp [hon, hn, hx, hq])
  have CI := Lib.hid ((ans_idx B w.heap.size vf s.fl id Y HV.out.ok.fl HV.out.fl n4 hwY).mono (R' := fun e w' => e = .returned (.int .i64 i) ∧ Below Y.heap.size Y w') (by
    rintro e w' ⟨⟨z, he, hz⟩, hb⟩
    rcases hz with ⟨rfl, hk⟩ | ⟨k, rfl, hk⟩
    · rw [hn] at hk; cases hk
    · rw [hn] at hk; cases hk; exact ⟨he, hb⟩))
  rw [hon] at c2
  have hin : i < s.fl.length := (List.getElem?_eq_some_iff.1 hx).1
  obtain ⟨g, o, cap, e3, hBg, hgl, hnc, hcm, hcl⟩ := HV.out.fl.at (by omega)
  have m3 := hcl (i * 7 + 3) _ (flL_get s.fl i x hx 3 _ rfl)
  have m6 := hcl (i * 7 + 6) _ (flL_get s.fl i x hx 6 _ rfl)
  simp only [← Nat.add_assoc] at m3 m6
  subst e3
  have HX := Lib.hid hx
  have hlt : i < s.fl.length := hin
  have hNI : (i : Int) < (s.fl.length : Int) := by omega
  have hl64 := HV.out.ok.fl
  have n7 := hb.cell 7
  simp only [ansA, List.getElem?_toArray, List.getElem?_cons_zero, List.getElem?_cons_succ] at n7
  obtain ⟨xid, ⟨xt, xp, xq, xr, xg⟩, xrel⟩ := x
  simp only at m3 m6 HX
  simp only at hq
  have hqe : (xq == 1) = false := by rw [beq_eq_false_iff_ne]; exact hq
  have hqn : (xq != 1) = true := by rw [bne_iff_ne]; exact hq
  clear hq
  have HC := Lib.hid hcl
  clear hYe hY hb hV h hon hn hx hcl hcm
  unfold ansA
  go_enter Try.func12, Try.ntmps12
  go_wp2_with (first | (rw [show w.alloc (.cells #[.int .i64 4, .bool false, .bool false, .int .i64 0, .int .i64 id, .string ⟨#[]⟩, .string ⟨#[]⟩, .int .u8 code, .slice none 0 0, .slice none 0 0, .string ⟨#[]⟩, .bool false, .int .i64 0, .bool false, .string ⟨#[]⟩, .string ⟨#[]⟩, .int .i64 0, .bool false, .slice none 0 0, .bool false, .bool false, .string ⟨#[]⟩, .string ⟨#[]⟩, .bool false, .slice none 0 0, .slice none 0 0] 37) = Y from HE.out]) | (go_at_call 27; (with_reducible refine CI.out.mono ?_); rintro e w1 ⟨rfl, hb1⟩; have HB1 := Lib.hid hb1; have HV1 := Lib.hid (HV.out.below hb1); have HA1 := Lib.hid (show FlowAt B fp pb mb s w1 from ⟨_, _, HV1.out⟩); have HF1 := Lib.hid (HF.out.trans (Fr.of_below (S := flowS mb) hb1 HV.out.sz)); have d3 := HV1.out.blk.cell 3; simp only [List.getElem?_toArray, List.getElem?_cons_zero, List.getElem?_cons_succ] at d3; have q3 := (hb1.cell (p := ⟨g, o + i * 7 + 3, none⟩) hgl).trans m3; have q6 := (hb1.cell (p := ⟨g, o + i * 7 + 6, none⟩) hgl).trans m6; have p0 := (hb1.cell (p := ⟨w.heap.size, 0, none⟩) hwY).trans n0; have p4 := (hb1.cell (p := ⟨w.heap.size, 4, none⟩) hwY).trans n4; have p7 := (hb1.cell (p := ⟨w.heap.size, 7, none⟩) hwY).trans n7; clear hb1 m3 m6 n0 n4 n7 c2 c3) | (fail))
  go_ret2
  exact ansPost_mk Hx.out ⟨_, _, HV1.out⟩ (OutAt.nil _ _) HF1.out
set_option maxHeartbeats 4000000 in
set_option maxRecDepth 100000 in
theorem fans_ack (B fp pb mb : Nat) (s : FS) (id code : Int) (w : World) (h : FlowAt B fp pb mb s w) (hon : s.on = true) (i : Nat) (x : OF) (hn : s.fl.findIdx? (fun x => x.id == id) = some i) (hx : s.fl[i]? = some x) (hq : x.m.qos = 1) :
    Calls Try.prog 12 #[.pointer (some ⟨fp, 0, none⟩), .agg (ansA 4 id code)] w (AnsPost B fp pb mb w (fanswer s 4 id code)) := by
  have hY := (Below.refl w.heap.size w).alloc (Nat.le_refl _) (.cells (ansA 4 id code) 37)
  have hb := blk_at w (ansA 4 id code) 37 rfl
  obtain ⟨Y, hYe⟩ : ∃ Y, w.alloc (.cells (ansA 4 id code) 37) = Y := ⟨_, rfl⟩
  rw [hYe] at hY hb
  obtain ⟨vf, vw, hV⟩ := h.below hY
  have HV := Lib.hid hV
  have HF := Lib.hid (Fr.of_below (S := flowS mb) hY h.sz)
  have HMB := Lib.hid hb
  have HE := Lib.hid hYe
  have hsz : B ≤ w.heap.size := h.sz
  have hwY : w.heap.size < Y.heap.size := hb.lt
  have n0 := hb.cell 0
  have n4 := hb.cell 4
  have c2 := hV.blk.cell 2
  have c3 := hV.blk.cell 3
  simp only [ansA, List.getElem?_toArray, List.getElem?_cons_zero, List.getElem?_cons_succ] at n0 n4 c2 c3
  have Hx := Lib.hid (show fanswer s 4 id code = ((goOn (fover s i)).1, (goOn (fover s i)).2, 0) from by unfold fanswer; simp [hon, hn, hx, hq])
  have CI := Lib.hid ((ans_idx B w.heap.size vf s.fl id Y HV.out.ok.fl HV.out.fl n4 hwY).mono (R' := fun e w' => e = .returned (.int .i64 i) ∧ Below Y.heap.size Y w') (by
    rintro e w' ⟨⟨z, he, hz⟩, hb⟩
    rcases hz with ⟨rfl, hk⟩ | ⟨k, rfl, hk⟩
    · rw [hn] at hk; cases hk
    · rw [hn] at hk; cases hk; exact ⟨he, hb⟩))
  rw [hon] at c2
  have hin : i < s.fl.length := (List.getElem?_eq_some_iff.1 hx).1
  obtain ⟨g, o, cap, e3, hBg, hgl, hnc, hcm, hcl⟩ := HV.out.fl.at (by omega)
  have m3 := hcl (i * 7 + 3) _ (flL_get s.fl i x hx 3 _ rfl)
  have m6 := hcl (i * 7 + 6) _ (flL_get s.fl i x hx 6 _ rfl)
  simp only [← Nat.add_assoc] at m3 m6
  subst e3
  have HX := Lib.hid hx
  have hlt : i < s.fl.length := hin
  have hNI : (i : Int) < (s.fl.length : Int) := by omega
  have hl64 := HV.out.ok.fl
  have n7 := hb.cell 7
  simp only [ansA, List.getElem?_toArray, List.getElem?_cons_zero, List.getElem?_cons_succ] at n7
  obtain ⟨xid, ⟨xt, xp, xq, xr, xg⟩, xrel⟩ := x
  simp only at m3 m6 HX
  simp only at hq
  subst hq
  have HC := Lib.hid hcl
  clear hYe hY hb hV h hon hn hx hcl hcm
  unfold ansA
  go_enter Try.func12, Try.ntmps12
  go_wp2_with (first | (rw [show w.alloc (.cells #[.int .i64 4, .bool false, .bool false, .int .i64 0, .int .i64 id, .string ⟨#[]⟩, .string ⟨#[]⟩, .int .u8 code, .slice none 0 0, .slice none 0 0, .string ⟨#[]⟩, .bool false, .int .i64 0, .bool false, .string ⟨#[]⟩, .string ⟨#[]⟩, .int .i64 0, .bool false, .slice none 0 0, .bool false, .bool false, .string ⟨#[]⟩, .string ⟨#[]⟩, .bool false, .slice none 0 0, .slice none 0 0] 37) = Y from HE.out]) | (go_at_call 27; (with_reducible refine CI.out.mono ?_); rintro e w1 ⟨rfl, hb1⟩; have HB1 := Lib.hid hb1; have HV1 := Lib.hid (HV.out.below hb1); have HA1 := Lib.hid (show FlowAt B fp pb mb s w1 from ⟨_, _, HV1.out⟩); have HF1 := Lib.hid (HF.out.trans (Fr.of_below (S := flowS mb) hb1 HV.out.sz)); have d3 := HV1.out.blk.cell 3; simp only [List.getElem?_toArray, List.getElem?_cons_zero, List.getElem?_cons_succ] at d3; have q3 := (hb1.cell (p := ⟨g, o + i * 7 + 3, none⟩) hgl).trans m3; have q6 := (hb1.cell (p := ⟨g, o + i * 7 + 6, none⟩) hgl).trans m6; have p0 := (hb1.cell (p := ⟨w.heap.size, 0, none⟩) hwY).trans n0; have p4 := (hb1.cell (p := ⟨w.heap.size, 4, none⟩) hwY).trans n4; have p7 := (hb1.cell (p := ⟨w.heap.size, 7, none⟩) hwY).trans n7; clear hb1 m3 m6 n0 n4 n7 c2 c3) | (go_at_call 29; (with_reducible refine (fover_any B fp pb mb i s _ _ HA1.out HX.out).mono ?_); rintro e w2 ⟨rfl, hf2, hr2⟩; have H2 := Lib.hid hf2; have R2 := Lib.hid (HF1.out.trans hr2); clear hf2 hr2 d3 q3 q6) | (go_at_call 30; (with_reducible refine (goOn_fresh (w0 := w) H2.out (OutAt.nil _ _) (by simp) hsz R2.out).mono ?_); rintro e w3 ⟨v3, rfl, h3, o3, r3⟩; have H3 := Lib.hid h3; have O3 := Lib.hid o3; have R3 := Lib.hid r3; clear h3 o3 r3) | (fail))
  go_ret2
  exact ansPost_mk Hx.out H3.out (by simpa using O3.out) R3.out
set_option maxHeartbeats 4000000 in
set_option maxRecDepth 100000 in
theorem fans_rec_bad (B fp pb mb : Nat) (s : FS) (id code : Int) (w : World) (h : FlowAt B fp pb mb s w) (hon : s.on = true) (i : Nat) (x : OF) (hn : s.fl.findIdx? (fun x => x.id == id) = some i) (hx : s.fl[i]? = some x) (hq : x.m.qos ≠ 2) :
    Calls Try.prog 12 #[.pointer (some ⟨fp, 0, none⟩), .agg (ansA 5 id code)] w (AnsPost B fp pb mb w (fanswer s 5 id code)) := by
  have hY := (Below.refl w.heap.size w).alloc (Nat.le_refl _) (.cells (ansA 5 id code) 37)
  have hb := blk_at w (ansA 5 id code) 37 rfl
  obtain ⟨Y, hYe⟩ : ∃ Y, w.alloc (.cells (ansA 5 id code) 37) = Y := ⟨_, rfl⟩
  rw [hYe] at hY hb
  obtain ⟨vf, vw, hV⟩ := h.below hY
  have HV := Lib.hid hV
  have HF := Lib.hid (Fr.of_below (S := flowS mb) hY h.sz)
  have HMB := Lib.hid hb
  have HE := Lib.hid hYe
  have hsz : B ≤ w.heap.size := h.sz
  have hwY : w.heap.size < Y.heap.size := hb.lt
  have n0 := hb.cell 0
  have n4 := hb.cell 4
  have c2 := hV.blk.cell 2
  have c3 := hV.blk.cell 3
  simp only [ansA, List.getElem?_toArray, List.getElem?_cons_zero, List.getElem?_cons_succ] at n0 n4 c2 c3
  have Hx := Lib.hid (show fanswer s 5 id code = (s, [], 130) from by unfold fanswer; simp [hon, hn, hx, hq])
  have CI := Lib.hid ((ans_idx B w.heap.size vf s.fl id Y HV.out.ok.fl HV.out.fl n4 hwY).mono (R' := fun e w' => e = .returned (.int .i64 i) ∧ Below Y.heap.size Y w') (by
    rintro e w' ⟨⟨z, he, hz⟩, hb⟩
    rcases hz with ⟨rfl, hk⟩ | ⟨k, rfl, hk⟩
    · rw [hn] at hk; cases hk
    · rw [hn] at hk; cases hk; exact ⟨he, hb⟩))
  rw [hon] at c2
  have hin : i < s.fl.length := (List.getElem?_eq_some_iff.1 hx).1
  obtain ⟨g, o, cap, e3, hBg, hgl, hnc, hcm, hcl⟩ := HV.out.fl.at (by omega)
  have m3 := hcl (i * 7 + 3) _ (flL_get s.fl i x hx 3 _ rfl)
  have m6 := hcl (i * 7 + 6) _ (flL_get s.fl i x hx 6 _ rfl)
  simp only [← Nat.add_assoc] at m3 m6
  subst e3
  have HX := Lib.hid hx
  have hlt : i < s.fl.length := hin
  have hNI : (i : Int) < (s.fl.length : Int) := by omega
  have hl64 := HV.out.ok.fl
  have n7 := hb.cell 7
  simp only [ansA, List.getElem?_toArray, List.getElem?_cons_zero, List.getElem?_cons_succ] at n7
  obtain ⟨xid, ⟨xt, xp, xq, xr, xg⟩, xrel⟩ := x
  simp only at m3 m6 HX
  simp only at hq
  have hqe : (xq == 2) = false := by rw [beq_eq_false_iff_ne]; exact hq
  have hqn : (xq != 2) = true := by rw [bne_iff_ne]; exact hq
  clear hq
  have HC := Lib.hid hcl
  clear hYe hY hb hV h hon hn hx hcl hcm
  unfold ansA
  go_enter Try.func12, Try.ntmps12
  go_wp2_with (first | (rw [show w.alloc (.cells #[.int .i64 5, .bool false, .bool false, .int .i64 0, .int .i64 id, .string ⟨#[]⟩, .string ⟨#[]⟩, .int .u8 code, .slice none 0 0, .slice none 0 0, .string ⟨#[]⟩, .bool false, .int .i64 0, .bool false, .string ⟨#[]⟩, .string ⟨#[]⟩, .int .i64 0, .bool false, .slice none 0 0, .bool false, .bool false, .string ⟨#[]⟩, .string ⟨#[]⟩, .bool false, .slice none 0 0, .slice none 0 0] 37) = Y from HE.out]) | (go_at_call 27; (with_reducible refine CI.out.mono ?_); rintro e w1 ⟨rfl, hb1⟩; have HB1 := Lib.hid hb1; have HV1 := Lib.hid (HV.out.below hb1); have HA1 := Lib.hid (show FlowAt B fp pb mb s w1 from ⟨_, _, HV1.out⟩); have HF1 := Lib.hid (HF.out.trans (Fr.of_below (S := flowS mb) hb1 HV.out.sz)); have d3 := HV1.out.blk.cell 3; simp only [List.getElem?_toArray, List.getElem?_cons_zero, List.getElem?_cons_succ] at d3; have q3 := (hb1.cell (p := ⟨g, o + i * 7 + 3, none⟩) hgl).trans m3; have q6 := (hb1.cell (p := ⟨g, o + i * 7 + 6, none⟩) hgl).trans m6; have p0 := (hb1.cell (p := ⟨w.heap.size, 0, none⟩) hwY).trans n0; have p4 := (hb1.cell (p := ⟨w.heap.size, 4, none⟩) hwY).trans n4; have p7 := (hb1.cell (p := ⟨w.heap.size, 7, none⟩) hwY).trans n7; clear hb1 m3 m6 n0 n4 n7 c2 c3) | (fail))
  go_ret2
  exact ansPost_mk Hx.out ⟨_, _, HV1.out⟩ (OutAt.nil _ _) HF1.out
set_option maxHeartbeats 4000000 in
set_option maxRecDepth 100000 in
theorem fans_rec_rel (B fp pb mb : Nat) (s : FS) (id code : Int) (w : World) (h : FlowAt B fp pb mb s w) (hon : s.on = true) (i : Nat) (x : OF) (hn : s.fl.findIdx? (fun x => x.id == id) = some i) (hx : s.fl[i]? = some x) (hq : x.m.qos = 2) (hc : 128 ≤ code) (hc2 : code ≤ 255) (hr : x.rel = true) :
    Calls Try.prog 12 #[.pointer (some ⟨fp, 0, none⟩), .agg (ansA 5 id code)] w (AnsPost B fp pb mb w (fanswer s 5 id code)) := by
  have hY := (Below.refl w.heap.size w).alloc (Nat.le_refl _) (.cells (ansA 5 id code) 37)
  have hb := blk_at w (ansA 5 id code) 37 rfl
  obtain ⟨Y, hYe⟩ : ∃ Y, w.alloc (.cells (ansA 5 id code) 37) = Y := ⟨_, rfl⟩
  rw [hYe] at hY hb
  obtain ⟨vf, vw, hV⟩ := h.below hY
  have HV := Lib.hid hV
  have HF := Lib.hid (Fr.of_below (S := flowS mb) hY h.sz)
  have HMB := Lib.hid hb
  have HE := Lib.hid hYe
  have hsz : B ≤ w.heap.size := h.sz
  have hwY : w.heap.size < Y.heap.size := hb.lt
  have n0 := hb.cell 0
  have n4 := hb.cell 4
  have c2 := hV.blk.cell 2
  have c3 := hV.blk.cell 3
  simp only [ansA, List.getElem?_toArray, List.getElem?_cons_zero, List.getElem?_cons_succ] at n0 n4 c2 c3
  have Hx := Lib.hid (show fanswer s 5 id code = (s, [], 130) from by unfold fanswer; simp [hon, hn, hx, hq, hc, hr])
  have CI := Lib.hid ((ans_idx B w.heap.size vf s.fl id Y HV.out.ok.fl HV.out.fl n4 hwY).mono (R' := fun e w' => e = .returned (.int .i64 i) ∧ Below Y.heap.size Y w') (by
    rintro e w' ⟨⟨z, he, hz⟩, hb⟩
    rcases hz with ⟨rfl, hk⟩ | ⟨k, rfl, hk⟩
    · rw [hn] at hk; cases hk
    · rw [hn] at hk; cases hk; exact ⟨he, hb⟩))
  rw [hon] at c2
  have hin : i < s.fl.length := (List.getElem?_eq_some_iff.1 hx).1
  obtain ⟨g, o, cap, e3, hBg, hgl, hnc, hcm, hcl⟩ := HV.out.fl.at (by omega)
  have m3 := hcl (i * 7 + 3) _ (flL_get s.fl i x hx 3 _ rfl)
  have m6 := hcl (i * 7 + 6) _ (flL_get s.fl i x hx 6 _ rfl)
  simp only [← Nat.add_assoc] at m3 m6
  subst e3
  have HX := Lib.hid hx
  have hlt : i < s.fl.length := hin
  have hNI : (i : Int) < (s.fl.length : Int) := by omega
  have hl64 := HV.out.ok.fl
  have n7 := hb.cell 7
  simp only [ansA, List.getElem?_toArray, List.getElem?_cons_zero, List.getElem?_cons_succ] at n7
  obtain ⟨xid, ⟨xt, xp, xq, xr, xg⟩, xrel⟩ := x
  simp only at m3 m6 HX
  simp only at hq hr
  subst hq hr
  have HC := Lib.hid hcl
  clear hYe hY hb hV h hon hn hx hcl hcm
  unfold ansA
  go_enter Try.func12, Try.ntmps12
  go_wp2_with (first | (rw [show w.alloc (.cells #[.int .i64 5, .bool false, .bool false, .int .i64 0, .int .i64 id, .string ⟨#[]⟩, .string ⟨#[]⟩, .int .u8 code, .slice none 0 0, .slice none 0 0, .string ⟨#[]⟩, .bool false, .int .i64 0, .bool false, .string ⟨#[]⟩, .string ⟨#[]⟩, .int .i64 0, .bool false, .slice none 0 0, .bool false, .bool false, .string ⟨#[]⟩, .string ⟨#[]⟩, .bool false, .slice none 0 0, .slice none 0 0] 37) = Y from HE.out]) | (go_at_call 27; (with_reducible refine CI.out.mono ?_); rintro e w1 ⟨rfl, hb1⟩; have HB1 := Lib.hid hb1; have HV1 := Lib.hid (HV.out.below hb1); have HA1 := Lib.hid (show FlowAt B fp pb mb s w1 from ⟨_, _, HV1.out⟩); have HF1 := Lib.hid (HF.out.trans (Fr.of_below (S := flowS mb) hb1 HV.out.sz)); have d3 := HV1.out.blk.cell 3; simp only [List.getElem?_toArray, List.getElem?_cons_zero, List.getElem?_cons_succ] at d3; have q3 := (hb1.cell (p := ⟨g, o + i * 7 + 3, none⟩) hgl).trans m3; have q6 := (hb1.cell (p := ⟨g, o + i * 7 + 6, none⟩) hgl).trans m6; have p0 := (hb1.cell (p := ⟨w.heap.size, 0, none⟩) hwY).trans n0; have p4 := (hb1.cell (p := ⟨w.heap.size, 4, none⟩) hwY).trans n4; have p7 := (hb1.cell (p := ⟨w.heap.size, 7, none⟩) hwY).trans n7; clear hb1 m3 m6 n0 n4 n7 c2 c3) | (fail))
  go_ret2
  exact ansPost_mk Hx.out ⟨_, _, HV1.out⟩ (OutAt.nil _ _) HF1.out
set_option maxHeartbeats 4000000 in
set_option maxRecDepth 100000 in
theorem fans_rec_over (B fp pb mb : Nat) (s : FS) (id code : Int) (w : World) (h : FlowAt B fp pb mb s w) (hon : s.on = true) (i : Nat) (x : OF) (hn : s.fl.findIdx? (fun x => x.id == id) = some i) (hx : s.fl[i]? = some x) (hq : x.m.qos = 2) (hc : 128 ≤ code) (hc2 : code ≤ 255) (hr : x.rel = false) :
    Calls Try.prog 12 #[.pointer (some ⟨fp, 0, none⟩), .agg (ansA 5 id code)] w (AnsPost B fp pb mb w (fanswer s 5 id code)) := by
  have hY := (Below.refl w.heap.size w).alloc (Nat.le_refl _) (.cells (ansA 5 id code) 37)
  have hb := blk_at w (ansA 5 id code) 37 rfl
  obtain ⟨Y, hYe⟩ : ∃ Y, w.alloc (.cells (ansA 5 id code) 37) = Y := ⟨_, rfl⟩
  rw [hYe] at hY hb
  obtain ⟨vf, vw, hV⟩ := h.below hY
  have HV := Lib.hid hV
  have HF := Lib.hid (Fr.of_below (S := flowS mb) hY h.sz)
  have HMB := Lib.hid hb
  have HE := Lib.hid hYe
  have hsz : B ≤ w.heap.size := h.sz
  have hwY : w.heap.size < Y.heap.size := hb.lt
  have n0 := hb.cell 0
  have n4 := hb.cell 4
  have c2 := hV.blk.cell 2
  have c3 := hV.blk.cell 3
  simp only [ansA, List.getElem?_toArray, List.getElem?_cons_zero, List.getElem?_cons_succ] at n0 n4 c2 c3
  have Hx := Lib.hid (show fanswer s 5 id code = ((goOn (fover s i)).1, (goOn (fover s i)).2, 0) from by unfold fanswer; simp [hon, hn, hx, hq, hr, hc])
  have CI := Lib.hid ((ans_idx B w.heap.size vf s.fl id Y HV.out.ok.fl HV.out.fl n4 hwY).mono (R' := fun e w' => e = .returned (.int .i64 i) ∧ Below Y.heap.size Y w') (by
    rintro e w' ⟨⟨z, he, hz⟩, hb⟩
    rcases hz with ⟨rfl, hk⟩ | ⟨k, rfl, hk⟩
    · rw [hn] at hk; cases hk
    · rw [hn] at hk; cases hk; exact ⟨he, hb⟩))
  rw [hon] at c2
  have hin : i < s.fl.length := (List.getElem?_eq_some_iff.1 hx).1
  obtain ⟨g, o, cap, e3, hBg, hgl, hnc, hcm, hcl⟩ := HV.out.fl.at (by omega)
  have m3 := hcl (i * 7 + 3) _ (flL_get s.fl i x hx 3 _ rfl)
  have m6 := hcl (i * 7 + 6) _ (flL_get s.fl i x hx 6 _ rfl)
  simp only [← Nat.add_assoc] at m3 m6
  subst e3
  have HX := Lib.hid hx
  have hlt : i < s.fl.length := hin
  have hNI : (i : Int) < (s.fl.length : Int) := by omega
  have hl64 := HV.out.ok.fl
  have n7 := hb.cell 7
  simp only [ansA, List.getElem?_toArray, List.getElem?_cons_zero, List.getElem?_cons_succ] at n7
  obtain ⟨xid, ⟨xt, xp, xq, xr, xg⟩, xrel⟩ := x
  simp only at m3 m6 HX
  simp only at hq hr
  subst hq hr
  have HC := Lib.hid hcl
  clear hYe hY hb hV h hon hn hx hcl hcm
  unfold ansA
  go_enter Try.func12, Try.ntmps12
  go_wp2_with (first | (rw [show w.alloc (.cells #[.int .i64 5, .bool false, .bool false, .int .i64 0, .int .i64 id, .string ⟨#[]⟩, .string ⟨#[]⟩, .int .u8 code, .slice none 0 0, .slice none 0 0, .string ⟨#[]⟩, .bool false, .int .i64 0, .bool false, .string ⟨#[]⟩, .string ⟨#[]⟩, .int .i64 0, .bool false, .slice none 0 0, .bool false, .bool false, .string ⟨#[]⟩, .string ⟨#[]⟩, .bool false, .slice none 0 0, .slice none 0 0] 37) = Y from HE.out]) | (go_at_call 27; (with_reducible refine CI.out.mono ?_); rintro e w1 ⟨rfl, hb1⟩; have HB1 := Lib.hid hb1; have HV1 := Lib.hid (HV.out.below hb1); have HA1 := Lib.hid (show FlowAt B fp pb mb s w1 from ⟨_, _, HV1.out⟩); have HF1 := Lib.hid (HF.out.trans (Fr.of_below (S := flowS mb) hb1 HV.out.sz)); have d3 := HV1.out.blk.cell 3; simp only [List.getElem?_toArray, List.getElem?_cons_zero, List.getElem?_cons_succ] at d3; have q3 := (hb1.cell (p := ⟨g, o + i * 7 + 3, none⟩) hgl).trans m3; have q6 := (hb1.cell (p := ⟨g, o + i * 7 + 6, none⟩) hgl).trans m6; have p0 := (hb1.cell (p := ⟨w.heap.size, 0, none⟩) hwY).trans n0; have p4 := (hb1.cell (p := ⟨w.heap.size, 4, none⟩) hwY).trans n4; have p7 := (hb1.cell (p := ⟨w.heap.size, 7, none⟩) hwY).trans n7; clear hb1 m3 m6 n0 n4 n7 c2 c3) | (go_at_call 29; (with_reducible refine (fover_any B fp pb mb i s _ _ HA1.out HX.out).mono ?_); rintro e w2 ⟨rfl, hf2, hr2⟩; have H2 := Lib.hid hf2; have R2 := Lib.hid (HF1.out.trans hr2); clear hf2 hr2 d3 q3 q6) | (go_at_call 30; (with_reducible refine (goOn_fresh (w0 := w) H2.out (OutAt.nil _ _) (by simp) hsz R2.out).mono ?_); rintro e w3 ⟨v3, rfl, h3, o3, r3⟩; have H3 := Lib.hid h3; have O3 := Lib.hid o3; have R3 := Lib.hid r3; clear h3 o3 r3) | (fail))
  go_ret2
  exact ansPost_mk Hx.out H3.out (by simpa using O3.out) R3.out
set_option maxHeartbeats 4000000 in
set_option maxRecDepth 100000 in
theorem fans_comp_bad (B fp pb mb : Nat) (s : FS) (id code : Int) (w : World) (h : FlowAt B fp pb mb s w) (hon : s.on = true) (i : Nat) (x : OF) (hn : s.fl.findIdx? (fun x => x.id == id) = some i) (hx : s.fl[i]? = some x) (hr : x.rel = false) :
    Calls Try.prog 12 #[.pointer (some ⟨fp, 0, none⟩), .agg (ansA 7 id code)] w (AnsPost B fp pb mb w (fanswer s 7 id code)) := by
  have hY := (Below.refl w.heap.size w).alloc (Nat.le_refl _) (.cells (ansA 7 id code) 37)
  have hb := blk_at w (ansA 7 id code) 37 rfl
  obtain ⟨Y, hYe⟩ : ∃ Y, w.alloc (.cells (ansA 7 id code) 37) = Y := ⟨_, rfl⟩
  rw [hYe] at hY hb
  obtain ⟨vf, vw, hV⟩ := h.below hY
  have HV := Lib.hid hV
  have HF := Lib.hid (Fr.of_below (S := flowS mb) hY h.sz)
  have HMB := Lib.hid hb
  have HE := Lib.hid hYe
  have hsz : B ≤ w.heap.size := h.sz
  have hwY : w.heap.size < Y.heap.size := hb.lt
  have n0 := hb.cell 0
  have n4 := hb.cell 4
  have c2 := hV.blk.cell 2
  have c3 := hV.blk.cell 3
  simp only [ansA, List.getElem?_toArray, List.getElem?_cons_zero, List.getElem?_cons_succ] at n0 n4 c2 c3
  have Hx := Lib.hid (show fanswer s 7 id code = (s, [], 130) from by unfold fanswer; simp [hon, hn, hx, hr])
  have CI := Lib.hid ((ans_idx B w.heap.size vf s.fl id Y HV.out.ok.fl HV.out.fl n4 hwY).mono (R' := fun e w' => e = .returned (.int .i64 i) ∧ Below Y.heap.size Y w') (by
    rintro e w' ⟨⟨z, he, hz⟩, hb⟩
    rcases hz with ⟨rfl, hk⟩ | ⟨k, rfl, hk⟩
    · rw [hn] at hk; cases hk
    · rw [hn] at hk; cases hk; exact ⟨he, hb⟩))
  rw [hon] at c2
  have hin : i < s.fl.length := (List.getElem?_eq_some_iff.1 hx).1
  obtain ⟨g, o, cap, e3, hBg, hgl, hnc, hcm, hcl⟩ := HV.out.fl.at (by omega)
  have m3 := hcl (i * 7 + 3) _ (flL_get s.fl i x hx 3 _ rfl)
  have m6 := hcl (i * 7 + 6) _ (flL_get s.fl i x hx 6 _ rfl)
  simp only [← Nat.add_assoc] at m3 m6
  subst e3
  have HX := Lib.hid hx
  have hlt : i < s.fl.length := hin
  have hNI : (i : Int) < (s.fl.length : Int) := by omega
  have hl64 := HV.out.ok.fl
  have n7 := hb.cell 7
  simp only [ansA, List.getElem?_toArray, List.getElem?_cons_zero, List.getElem?_cons_succ] at n7
  obtain ⟨xid, ⟨xt, xp, xq, xr, xg⟩, xrel⟩ := x
  simp only at m3 m6 HX
  simp only at hr
  subst hr
  have HC := Lib.hid hcl
  clear hYe hY hb hV h hon hn hx hcl hcm
  unfold ansA
  go_enter Try.func12, Try.ntmps12
  go_wp2_with (first | (rw [show w.alloc (.cells #[.int .i64 7, .bool false, .bool false, .int .i64 0, .int .i64 id, .string ⟨#[]⟩, .string ⟨#[]⟩, .int .u8 code, .slice none 0 0, .slice none 0 0, .string ⟨#[]⟩, .bool false, .int .i64 0, .bool false, .string ⟨#[]⟩, .string ⟨#[]⟩, .int .i64 0, .bool false, .slice none 0 0, .bool false, .bool false, .string ⟨#[]⟩, .string ⟨#[]⟩, .bool false, .slice none 0 0, .slice none 0 0] 37) = Y from HE.out]) | (go_at_call 27; (with_reducible refine CI.out.mono ?_); rintro e w1 ⟨rfl, hb1⟩; have HB1 := Lib.hid hb1; have HV1 := Lib.hid (HV.out.below hb1); have HA1 := Lib.hid (show FlowAt B fp pb mb s w1 from ⟨_, _, HV1.out⟩); have HF1 := Lib.hid (HF.out.trans (Fr.of_below (S := flowS mb) hb1 HV.out.sz)); have d3 := HV1.out.blk.cell 3; simp only [List.getElem?_toArray, List.getElem?_cons_zero, List.getElem?_cons_succ] at d3; have q3 := (hb1.cell (p := ⟨g, o + i * 7 + 3, none⟩) hgl).trans m3; have q6 := (hb1.cell (p := ⟨g, o + i * 7 + 6, none⟩) hgl).trans m6; have p0 := (hb1.cell (p := ⟨w.heap.size, 0, none⟩) hwY).trans n0; have p4 := (hb1.cell (p := ⟨w.heap.size, 4, none⟩) hwY).trans n4; have p7 := (hb1.cell (p := ⟨w.heap.size, 7, none⟩) hwY).trans n7; clear hb1 m3 m6 n0 n4 n7 c2 c3) | (fail))
  go_ret2
  exact ansPost_mk Hx.out ⟨_, _, HV1.out⟩ (OutAt.nil _ _) HF1.out
set_option maxHeartbeats 4000000 in
set_option maxRecDepth 100000 in
theorem fans_comp (B fp pb mb : Nat) (s : FS) (id code : Int) (w : World) (h : FlowAt B fp pb mb s w) (hon : s.on = true) (i : Nat) (x : OF) (hn : s.fl.findIdx? (fun x => x.id == id) = some i) (hx : s.fl[i]? = some x) (hr : x.rel = true) :
    Calls Try.prog 12 #[.pointer (some ⟨fp, 0, none⟩), .agg (ansA 7 id code)] w (AnsPost B fp pb mb w (fanswer s 7 id code)) := by
  have hY := (Below.refl w.heap.size w).alloc (Nat.le_refl _) (.cells (ansA 7 id code) 37)
  have hb := blk_at w (ansA 7 id code) 37 rfl
  obtain ⟨Y, hYe⟩ : ∃ Y, w.alloc (.cells (ansA 7 id code) 37) = Y := ⟨_, rfl⟩
  rw [hYe] at hY hb
  obtain ⟨vf, vw, hV⟩ := h.below hY
  have HV := Lib.hid hV
  have HF := Lib.hid (Fr.of_below (S := flowS mb) hY h.sz)
  have HMB := Lib.hid hb
  have HE := Lib.hid hYe
  have hsz : B ≤ w.heap.size := h.sz
  have hwY : w.heap.size < Y.heap.size := hb.lt
  have n0 := hb.cell 0
  have n4 := hb.cell 4
  have c2 := hV.blk.cell 2
  have c3 := hV.blk.cell 3
  simp only [ansA, List.getElem?_toArray, List.getElem?_cons_zero, List.getElem?_cons_succ] at n0 n4 c2 c3
  have Hx := Lib.hid (show fanswer s 7 id code = ((goOn (fover s i)).1, (goOn (fover s i)).2, 0) from by unfold fanswer; simp [hon, hn, hx, hr])
  have CI := Lib.hid ((ans_idx B w.heap.size vf s.fl id Y HV.out.ok.fl HV.out.fl n4 hwY).mono (R' := fun e w' => e = .returned (.int .i64 i) ∧ Below Y.heap.size Y w') (by
    rintro e w' ⟨⟨z, he, hz⟩, hb⟩
    rcases hz with ⟨rfl, hk⟩ | ⟨k, rfl, hk⟩
    · rw [hn] at hk; cases hk
    · rw [hn] at hk; cases hk; exact ⟨he, hb⟩))
  rw [hon] at c2
  have hin : i < s.fl.length := (List.getElem?_eq_some_iff.1 hx).1
  obtain ⟨g, o, cap, e3, hBg, hgl, hnc, hcm, hcl⟩ := HV.out.fl.at (by omega)
  have m3 := hcl (i * 7 + 3) _ (flL_get s.fl i x hx 3 _ rfl)
  have m6 := hcl (i * 7 + 6) _ (flL_get s.fl i x hx 6 _ rfl)
  simp only [← Nat.add_assoc] at m3 m6
  subst e3
  have HX := Lib.hid hx
  have hlt : i < s.fl.length := hin
  have hNI : (i : Int) < (s.fl.length : Int) := by omega
  have hl64 := HV.out.ok.fl
  have n7 := hb.cell 7
  simp only [ansA, List.getElem?_toArray, List.getElem?_cons_zero, List.getElem?_cons_succ] at n7
  obtain ⟨xid, ⟨xt, xp, xq, xr, xg⟩, xrel⟩ := x
  simp only at m3 m6 HX
  simp only at hr
  subst hr
  have HC := Lib.hid hcl
  clear hYe hY hb hV h hon hn hx hcl hcm
  unfold ansA
  go_enter Try.func12, Try.ntmps12
  go_wp2_with (first | (rw [show w.alloc (.cells #[.int .i64 7, .bool false, .bool false, .int .i64 0, .int .i64 id, .string ⟨#[]⟩, .string ⟨#[]⟩, .int .u8 code, .slice none 0 0, .slice none 0 0, .string ⟨#[]⟩, .bool false, .int .i64 0, .bool false, .string ⟨#[]⟩, .string ⟨#[]⟩, .int .i64 0, .bool false, .slice none 0 0, .bool false, .bool false, .string ⟨#[]⟩, .string ⟨#[]⟩, .bool false, .slice none 0 0, .slice none 0 0] 37) = Y from HE.out]) | (go_at_call 27; (with_reducible refine CI.out.mono ?_); rintro e w1 ⟨rfl, hb1⟩; have HB1 := Lib.hid hb1; have HV1 := Lib.hid (HV.out.below hb1); have HA1 := Lib.hid (show FlowAt B fp pb mb s w1 from ⟨_, _, HV1.out⟩); have HF1 := Lib.hid (HF.out.trans (Fr.of_below (S := flowS mb) hb1 HV.out.sz)); have d3 := HV1.out.blk.cell 3; simp only [List.getElem?_toArray, List.getElem?_cons_zero, List.getElem?_cons_succ] at d3; have q3 := (hb1.cell (p := ⟨g, o + i * 7 + 3, none⟩) hgl).trans m3; have q6 := (hb1.cell (p := ⟨g, o + i * 7 + 6, none⟩) hgl).trans m6; have p0 := (hb1.cell (p := ⟨w.heap.size, 0, none⟩) hwY).trans n0; have p4 := (hb1.cell (p := ⟨w.heap.size, 4, none⟩) hwY).trans n4; have p7 := (hb1.cell (p := ⟨w.heap.size, 7, none⟩) hwY).trans n7; clear hb1 m3 m6 n0 n4 n7 c2 c3) | (go_at_call 29; (with_reducible refine (fover_any B fp pb mb i s _ _ HA1.out HX.out).mono ?_); rintro e w2 ⟨rfl, hf2, hr2⟩; have H2 := Lib.hid hf2; have R2 := Lib.hid (HF1.out.trans hr2); clear hf2 hr2 d3 q3 q6) | (go_at_call 30; (with_reducible refine (goOn_fresh (w0 := w) H2.out (OutAt.nil _ _) (by simp) hsz R2.out).mono ?_); rintro e w3 ⟨v3, rfl, h3, o3, r3⟩; have H3 := Lib.hid h3; have O3 := Lib.hid o3; have R3 := Lib.hid r3; clear h3 o3 r3) | (fail))
  go_ret2
  exact ansPost_mk Hx.out H3.out (by simpa using O3.out) R3.out
set_option maxHeartbeats 4000000 in
set_option maxRecDepth 100000 in
theorem fans_rec (B fp pb mb : Nat) (s : FS) (id code : Int) (w : World) (h : FlowAt B fp pb mb s w) (hon : s.on = true) (i : Nat) (x : OF) (hn : s.fl.findIdx? (fun x => x.id == id) = some i) (hx : s.fl[i]? = some x) (hq : x.m.qos = 2) (hc : code < 128) (hc0 : 0 ≤ code) :
    Calls Try.prog 12 #[.pointer (some ⟨fp, 0, none⟩), .agg (ansA 5 id code)] w (AnsPost B fp pb mb w (fanswer s 5 id code)) := by
  have hY := (Below.refl w.heap.size w).alloc (Nat.le_refl _) (.cells (ansA 5 id code) 37)
  have hb := blk_at w (ansA 5 id code) 37 rfl
  obtain ⟨Y, hYe⟩ : ∃ Y, w.alloc (.cells (ansA 5 id code) 37) = Y := ⟨_, rfl⟩
  rw [hYe] at hY hb
  obtain ⟨vf, vw, hV⟩ := h.below hY
  have HV := Lib.hid hV
  have HF := Lib.hid (Fr.of_below (S := flowS mb) hY h.sz)
  have HMB := Lib.hid hb
  have HE := Lib.hid hYe
  have hsz : B ≤ w.heap.size := h.sz
  have hwY : w.heap.size < Y.heap.size := hb.lt
  have n0 := hb.cell 0
  have n4 := hb.cell 4
  have c2 := hV.blk.cell 2
  have c3 := hV.blk.cell 3
  simp only [ansA, List.getElem?_toArray, List.getElem?_cons_zero, List.getElem?_cons_succ] at n0 n4 c2 c3
  have Hx := Lib.hid (show fanswer s 5 id code = ((goOn (frel s i)).1, .rel id :: (goOn (frel s i)).2, 0) from by unfold fanswer; simp [hon, hn, hx, hq, Int.not_le.2 hc])
  have CI := Lib.hid ((ans_idx B w.heap.size vf s.fl id Y HV.out.ok.fl HV.out.fl n4 hwY).mono (R' := fun e w' => e = .returned (.int .i64 i) ∧ Below Y.heap.size Y w') (by
    rintro e w' ⟨⟨z, he, hz⟩, hb⟩
    rcases hz with ⟨rfl, hk⟩ | ⟨k, rfl, hk⟩
    · rw [hn] at hk; cases hk
    · rw [hn] at hk; cases hk; exact ⟨he, hb⟩))
  rw [hon] at c2
  have hin : i < s.fl.length := (List.getElem?_eq_some_iff.1 hx).1
  obtain ⟨g, o, cap, e3, hBg, hgl, hnc, hcm, hcl⟩ := HV.out.fl.at (by omega)
  have m3 := hcl (i * 7 + 3) _ (flL_get s.fl i x hx 3 _ rfl)
  have m6 := hcl (i * 7 + 6) _ (flL_get s.fl i x hx 6 _ rfl)
  simp only [← Nat.add_assoc] at m3 m6
  subst e3
  have HX := Lib.hid hx
  have hlt : i < s.fl.length := hin
  have hNI : (i : Int) < (s.fl.length : Int) := by omega
  have hl64 := HV.out.ok.fl
  have n7 := hb.cell 7
  simp only [ansA, List.getElem?_toArray, List.getElem?_cons_zero, List.getElem?_cons_succ] at n7
  obtain ⟨xid, ⟨xt, xp, xq, xr, xg⟩, xrel⟩ := x
  simp only at m3 m6 HX
  simp only at hq
  subst hq
  obtain ⟨ib, hib, hib1⟩ := map_some info_bool
  have hgw : w.heap.size ≠ g := fun e => HV.out.fl.ne HMB.out (by decide) (by rw [e]; rfl)
  have hfz := HV.out.fl.frozen (o + i * 7 + 6)
  have HC := Lib.hid hcl
  clear hYe hY hb hV h hon hn hx hcl hcm
  unfold ansA
  go_enter Try.func12, Try.ntmps12
  go_wp2_with (first | (rw [show w.alloc (.cells #[.int .i64 5, .bool false, .bool false, .int .i64 0, .int .i64 id, .string ⟨#[]⟩, .string ⟨#[]⟩, .int .u8 code, .slice none 0 0, .slice none 0 0, .string ⟨#[]⟩, .bool false, .int .i64 0, .bool false, .string ⟨#[]⟩, .string ⟨#[]⟩, .int .i64 0, .bool false, .slice none 0 0, .bool false, .bool false, .string ⟨#[]⟩, .string ⟨#[]⟩, .bool false, .slice none 0 0, .slice none 0 0] 37) = Y from HE.out]) | (go_at_call 27; (with_reducible refine CI.out.mono ?_); rintro e w1 ⟨rfl, hb1⟩; have HB1 := Lib.hid hb1; have HV1 := Lib.hid (HV.out.below hb1); have HA1 := Lib.hid (show FlowAt B fp pb mb s w1 from ⟨_, _, HV1.out⟩); have HF1 := Lib.hid (HF.out.trans (Fr.of_below (S := flowS mb) hb1 HV.out.sz)); have d3 := HV1.out.blk.cell 3; simp only [List.getElem?_toArray, List.getElem?_cons_zero, List.getElem?_cons_succ] at d3; have q3 := (hb1.cell (p := ⟨g, o + i * 7 + 3, none⟩) hgl).trans m3; have q6 := (hb1.cell (p := ⟨g, o + i * 7 + 6, none⟩) hgl).trans m6; have p0 := (hb1.cell (p := ⟨w.heap.size, 0, none⟩) hwY).trans n0; have p4 := (hb1.cell (p := ⟨w.heap.size, 4, none⟩) hwY).trans n4; have p7 := (hb1.cell (p := ⟨w.heap.size, 7, none⟩) hwY).trans n7; have HM1 := Lib.hid (HMB.out.of_below hb1); have qf6 := (hb1.frozen (p := ⟨g, o + i * 7 + 6, none⟩) hgl).trans hfz; clear hb1 m3 m6 n0 n4 n7 c2 c3 hfz) | (refine wpList_storeN rfl 4 (.tmp 70) (.const (.bool true)) rfl rfl g (o + i * 7 + 6) (.bool true) (.bool xrel) rfl rfl rfl hib hib1 q6 qf6 ?_; intro Z hZ; have hr := flow_rel HV1.out HX.out rfl; rw [← Nat.add_assoc, hZ] at hr; have HVZ := Lib.hid hr.1; have HFZ := Lib.hid (HF1.out.trans hr.2); have hmz := HM1.out.other (R' := g) hgw (o + i * 7 + 6) (.bool true); rw [hZ] at hmz; have z4 := hmz.cell 4; simp only [ansA, List.getElem?_toArray, List.getElem?_cons_zero, List.getElem?_cons_succ] at z4; have hzs : w.heap.size ≤ Z.heap.size := HFZ.out.below.size; have hal := (Below.refl Z.heap.size Z).alloc (Nat.le_refl _) (.cells (pkA 6 false false 0 id ⟨#[]⟩ ⟨#[]⟩ (.slice none 0 0)) 37); have HNB := Lib.hid (blk_at Z (pkA 6 false false 0 id ⟨#[]⟩ ⟨#[]⟩ (.slice none 0 0)) 37 rfl); have HVX := Lib.hid (HVZ.out.below hal); have HFX := Lib.hid (HFZ.out.trans (Fr.of_below (S := flowS mb) hal (by omega))); obtain ⟨X, hX⟩ : ∃ X, Z.alloc (.cells (pkA 6 false false 0 id ⟨#[]⟩ ⟨#[]⟩ (.slice none 0 0)) 37) = X := ⟨_, rfl⟩; rw [hX] at HNB HVX HFX; have HEX := Lib.hid hX; have hxs : w.heap.size ≤ X.heap.size := HFX.out.below.size; clear hZ hr hmz hal hX q3 q6 qf6 p0 p4 p7 d3) | (refine wpList_buildTo rfl 37 _ rfl (some 74) rfl (pkA 6 false false 0 id ⟨#[]⟩ ⟨#[]⟩ (.slice none 0 0)) (by kernel_rfl) ?_) | (refine wpList_pkS _ (pkA 6 false false 0 id ⟨#[]⟩ ⟨#[]⟩ (.slice none 0 0)) rfl rfl rfl rfl X HEX.out ?_) | (refine wpList_out _ _ w.heap.size (.slice none 0 0) [] (.rel id) (.slice none 0 0) Z.heap.size rfl rfl rfl rfl (OutAt.nil _ _) rfl HNB.out hxs (by simp) ?_; intro v7 w7 ho7 hg7 hb7; have HO7 := Lib.hid ho7; have HA7 := Lib.hid (show FlowAt B fp pb mb (frel s i) w7 from ⟨_, _, HVX.out.grown (Sl.nil w.heap.size _ _ _) hg7⟩); have HF7 := Lib.hid (HFX.out.grown hg7 (by omega) (fun k hk => by cases hk) (fun k ob hk _ => by cases hk)); clear ho7 hg7 hb7) | (go_at_call 30; (with_reducible refine (goOn_fresh (w0 := w) HA7.out HO7.out (by simp) hsz HF7.out).mono ?_); rintro e w3 ⟨v3, rfl, h3, o3, r3⟩; have H3 := Lib.hid h3; have O3 := Lib.hid o3; have R3 := Lib.hid r3; clear h3 o3 r3) | (fail))
  go_ret2
  exact ansPost_mk Hx.out H3.out (by simpa using O3.out) R3.out
end Go.Proofs.Ytnclobnnnihpfaa
