/- OutflowPlays: samePackets. -/
import Derived.Test.YtnclobnnnihpfaaReE
import Derived.Test.YtnclobnnnihpfaaTwoV
import Derived.Test.YtnclobnnnihpfaaOnceK
namespace Go.Proofs.Ytnclobnnnihpfaa
set_option linter.unusedVariables false
set_option linter.unusedSimpArgs false
open Go.RowKit Go.Maps
theorem y_load_mid {P : Program} {ops : Array Oper} {S : World → Prop} {a : Act} {t b o : Nat} {T : TypeId} {cs : Array Value} {d : TypeDesc} (op : Oper) (hg : op.guard = none) (hop : op.op = .load T (.tmp t)) (ht : a.eval (.tmp t) = .pointer (some ⟨b, o, none⟩)) (hu : P.underlying T = some d) (hd : d.isRow = true) (hi : (P.info? T).map (·.size) = some cs.size)
    (h : ∀ w, S w → w.rangeAt b o cs.toList) : YieldsIf P ops S op (.agg cs) a := by
  refine Or.inl ⟨by simp [Region.wanted, hg], fun w hw => ?_⟩
  have e := run_loadAt_mid w b o T cs.toList d (h w hw) hu hd (by simpa using hi)
  simp only [Array.toArray_toList] at e
  unfold execOp
  simp only [hop, ht, Sem.run_bind, e, Result.andThen_ok, Sem.run_pure]
theorem y_index {P : Program} {ops : Array Oper} {S : World → Prop} {a : Act} {s t : Nat} {T : TypeId} {b o n c k : Nat} {i : Int} (op : Oper) (hg : op.guard = none) (hop : op.op = .indexAddr T (.tmp s) (.tmp t)) (hs : a.eval (.tmp s) = .slice (some ⟨b, o, none⟩) n c) (ht : a.eval (.tmp t) = .int .i64 i)
    (h : ∀ w, (Instr.indexAt T (.slice (some ⟨b, o, none⟩) n c) (.int .i64 i)).run P w = .ok (.pointer (some ⟨b, k, none⟩)) w) : YieldsIf P ops S op (.pointer (some ⟨b, k, none⟩)) a := by
  refine Or.inl ⟨by simp [Region.wanted, hg], fun w hw => ?_⟩
  unfold execOp
  simp only [hop, hs, ht, Sem.run_bind, h w, Result.andThen_ok, Sem.run_pure]
theorem OutAt.same {C : Nat} {w w' : World} {v : Value} {L : List OP} (h : OutAt C w v L) (m : Below w.heap.size w w') : OutAt C w' v L := h.below m
theorem ROutAt.same {C : Nat} {w w' : World} {v : Value} {L : List OP} (h : ROutAt C w v L) (m : Below w.heap.size w w') : ROutAt C w' v L := h.below m
/-- Both packets of an element. -/
theorem both_of {C D : Nat} {w : World} {p : OP} {pv pv' : Value} (h : OpAt C w p pv) (h' : ROpAt D w p pv') :
    ∃ (k : Int) (d r : Bool) (q id : Int) (t pl tag : ByteArray), opA p pv = pkA k d r q id t pl pv ∧ ropA p pv' = rpkA k d r q id t pl pv' ∧ PvAt C w tag pv ∧ RPvAt D w tag pv' := by
  cases p with
  | pub m id dup => exact ⟨3, dup, m.retain, m.qos, id, m.topic, m.payload, m.tag, rfl, rfl, h, h'⟩
  | rel id => exact ⟨6, false, false, 0, id, ⟨#[]⟩, ⟨#[]⟩, ⟨#[]⟩, rfl, rfl, .inl ⟨rfl, h⟩, .inl ⟨rfl, h'⟩⟩
def ppA (tag : ByteArray) : Array Value := #[.int .i64 38, .int .i64 0, .string ⟨#[116, 97, 103]⟩, .string tag]
theorem pv_both {C D : Nat} {w : World} {tag : ByteArray} {pv pv' : Value} (h : PvAt C w tag pv) (h' : RPvAt D w tag pv') :
    ∃ (n : Nat) (a a' : Option Addr) (c c' : Nat), pv = .slice a n c ∧ pv' = .slice a' n c' ∧ n ≤ 1 ∧ n ≤ c ∧ n ≤ c' ∧ (0 < n → ∃ gp gp', a = some ⟨gp, 0, none⟩ ∧ a' = some ⟨gp', 0, none⟩ ∧ Blk w gp (ppA tag) 108 ∧ Blk w gp' (ppA tag) 107) := by
  rcases h with ⟨h1, rfl⟩ | ⟨h1, g, h2, rfl, h3⟩
  · rcases h' with ⟨k1, rfl⟩ | ⟨k1, k2⟩
    · exact ⟨0, none, none, 0, 0, rfl, rfl, by omega, by omega, by omega, fun c => by omega⟩
    · exact absurd h1 k1
  · rcases h' with ⟨k1, k2⟩ | ⟨k1, g', k2, rfl, k3⟩
    · exact absurd k1 h1
    · exact ⟨1, _, _, 1, 1, rfl, rfl, by omega, by omega, by omega, fun _ => ⟨g, g', rfl, rfl, h3, k3⟩⟩
theorem range_below {w w' : World} {b o : Nat} {cs : List Value} (h : w.rangeAt b o cs) (hl : b < w.heap.size) (m : Below w.heap.size w w') : w'.rangeAt b o cs := fun j u hu => (m.cell (p := ⟨b, o + j, none⟩) hl).trans (h j u hu)
set_option maxHeartbeats 4000000 in
set_option maxRecDepth 100000 in
theorem same1_any (C D : Nat) (v v' : Value) (L : List OP) (w : World) (h : OutAt C w v L) (h' : ROutAt D w v' L) (hl : L.length ≤ 1048576) :
    Calls Try.prog 22 #[v, v'] w fun e w' => e = .returned (.bool true) ∧ Below w.heap.size w w' := by
  obtain ⟨xs, hs⟩ := h.sl
  obtain ⟨ys, hs'⟩ := h'.sl
  obtain ⟨ao, cap, rfl, hc1, hc2, -⟩ := hs.form
  obtain ⟨ao', cap', rfl, hc1', hc2', -⟩ := hs'.form
  have H := Lib.hid h
  have H' := Lib.hid h'
  unfold maxLen at hc2 hc2'
  clear h h' hs hs'
  go_enter Try.func22, Try.ntmps22
  go_wp2_with fail
  go_loopw [17] (fun iv wr => ∃ i : Nat, iv = .int .i64 i ∧ i ≤ L.length ∧ Hid (Below w.heap.size w wr)) (fun iv _ => ((L.length : Int) - intOf iv).toNat)
  case atStart => exact ⟨0, rfl, Nat.zero_le _, Lib.hid (Below.refl _ _)⟩
  case round =>
    obtain ⟨i, rfl, hi, hW⟩ := hrel
    by_cases hil : i < L.length
    · have hI : (i : Int) < (L.length : Int) := by omega
      obtain ⟨p, hp⟩ : ∃ p, L[i]? = some p := ⟨_, List.getElem?_eq_getElem hil⟩
      obtain ⟨g, o, c1, pv, ev, -, -, hop, hcl⟩ := (OutAt.same H.out hW.out).at hp
      obtain ⟨g', o', c1', pv', ev', -, -, hop', hcl'⟩ := (ROutAt.same H'.out hW.out).at hp
      injection ev with e1 e2 e3
      injection ev' with e1' e2' e3'
      subst e1 e1'
      obtain ⟨k, d, r, q, id, t, pl, tag, ex, ey, hpv, hpv'⟩ := both_of hop hop'
      have hX1 := op_one hop
      have hY1 := rop_one hop'
      rw [ex] at hcl hX1
      rw [ey] at hcl' hY1
      have RX : wr.rangeAt g (o + i * 26) (pkA k d r q id t pl pv).toList := hcl
      have RY : wr.rangeAt g' (o' + i * 26) (rpkA k d r q id t pl pv').toList := hcl'
      have XR := Lib.hid RX
      have YR := Lib.hid RY
      have X1 := Lib.hid hX1
      have Y1 := Lib.hid hY1
      have PVX := Lib.hid hpv
      have PVY := Lib.hid hpv'
      clear RX RY hcl hcl' hop hop' hX1 hY1 ex ey e2 e3 e2' e3' hp hpv hpv'
      go_wp2_with fail
      have s0 : (fun X : World => X.rangeAt g (o + i * 26) (pkA k d r q id t pl pv).toList ∧ X.rangeAt g' (o' + i * 26) (rpkA k d r q id t pl pv').toList) wr.drew := ⟨XR.out, YR.out⟩
      refine wp_region_held (S := fun X : World => X.rangeAt g (o + i * 26) (pkA k d r q id t pl pv).toList ∧ X.rangeAt g' (o' + i * 26) (rpkA k d r q id t pl pv').toList) (by kernel_rfl) ?_
      change wpAnyH _ _ _ _ _ _ _ _ wr.drew
      refine wpAnyH_takeD (i := 0) (d := 20) (v := .slice (some ⟨g, o, none⟩) L.length cap) rfl rfl (by kernel_rfl) (by kernel_rfl) (by kernel_rfl) (fun _ _ _ h => h) (y_move _ rfl rfl rfl) s0 ?_
      simp only [Act.put, List.setIfInBounds_toArray, List.set_cons_succ, List.set_cons_zero]
      refine wpAnyH_takeD (i := 1) (d := 21) (v := .int .i64 i) rfl rfl (by kernel_rfl) (by kernel_rfl) (by kernel_rfl) (fun _ _ _ h => h) (y_move _ rfl rfl rfl) s0 ?_
      simp only [Act.put, List.setIfInBounds_toArray, List.set_cons_succ, List.set_cons_zero]
      refine wpAnyH_takeD (i := 2) (d := 22) (v := .pointer (some ⟨g, o + i * 26, none⟩)) rfl rfl (by kernel_rfl) (by kernel_rfl) (by kernel_rfl) (fun _ _ _ h => h) (y_index _ rfl rfl rfl rfl (fun W => by go_simp)) s0 ?_
      simp only [Act.put, List.setIfInBounds_toArray, List.set_cons_succ, List.set_cons_zero]
      refine wpAnyH_takeD (i := 3) (d := 23) (v := .agg (pkA k d r q id t pl pv)) rfl rfl (by kernel_rfl) (by kernel_rfl) (by kernel_rfl) (fun _ _ _ h => h) (y_load_mid _ rfl rfl rfl Try.underlying37 rfl pk_size (fun W hW => hW.1)) s0 ?_
      simp only [Act.put, List.setIfInBounds_toArray, List.set_cons_succ, List.set_cons_zero]
      refine wpAnyH_takeD (i := 4) (d := 24) (v := .slice (some ⟨g', o', none⟩) L.length cap') rfl rfl (by kernel_rfl) (by kernel_rfl) (by kernel_rfl) (fun _ _ _ h => h) (y_move _ rfl rfl rfl) s0 ?_
      simp only [Act.put, List.setIfInBounds_toArray, List.set_cons_succ, List.set_cons_zero]
      refine wpAnyH_takeD (i := 5) (d := 25) (v := .int .i64 i) rfl rfl (by kernel_rfl) (by kernel_rfl) (by kernel_rfl) (fun _ _ _ h => h) (y_move _ rfl rfl rfl) s0 ?_
      simp only [Act.put, List.setIfInBounds_toArray, List.set_cons_succ, List.set_cons_zero]
      refine wpAnyH_takeD (i := 6) (d := 26) (v := .pointer (some ⟨g', o' + i * 26, none⟩)) rfl rfl (by kernel_rfl) (by kernel_rfl) (by kernel_rfl) (fun _ _ _ h => h) (y_index _ rfl rfl rfl rfl (fun W => by go_simp)) s0 ?_
      simp only [Act.put, List.setIfInBounds_toArray, List.set_cons_succ, List.set_cons_zero]
      refine wpAnyH_takeD (i := 7) (d := 27) (v := .agg (rpkA k d r q id t pl pv')) rfl rfl (by kernel_rfl) (by kernel_rfl) (by kernel_rfl) (fun _ _ _ h => h) (y_load_mid _ rfl rfl rfl Try.underlying56 rfl dpk_size (fun W hW => hW.2)) s0 ?_
      simp only [Act.put, List.setIfInBounds_toArray, List.set_cons_succ, List.set_cons_zero]
      change wpAnyH _ _ _ _ _ 4 (lst 12 [0, 1, 2, 3, 4, 5, 6, 7]) _ _
      refine wpAnyH_two_vars (i := 8) (j := 9) (k := 10) (l := 11) (zx := zpk) (zy := rzpk) (cx := pkA k d r q id t pl pv) (cy := rpkA k d r q id t pl pv') _ _ _ _ rfl rfl rfl rfl rfl rfl rfl rfl rfl rfl rfl rfl rfl rfl (by decide) (fun _ _ => by kernel_rfl) (fun _ _ => by kernel_rfl) (by kernel_rfl) (fun _ _ => rfl) (fun _ _ => rfl) (fun _ _ => rfl) (fun _ _ => rfl) (fun _ _ => rfl) pk_size dpk_size rfl rfl X1.out Y1.out ?_ ?_
      · intro W hb
        exact ⟨range_below (w := wr.drew) s0.1 (World.block_lt_of_cell? _ ⟨g, o + i * 26 + 0, none⟩ (s0.1 0 (.int .i64 k) rfl)) hb, range_below (w := wr.drew) s0.2 (World.block_lt_of_cell? _ ⟨g', o' + i * 26 + 0, none⟩ (s0.2 0 (.int .i64 k) rfl)) hb⟩
      intro bx by' W kx ky hne lx ly hb
      simp only [Act.put, List.setIfInBounds_toArray, List.set_cons_succ, List.set_cons_zero]
      have hW2 := Lib.hid (hW.out.trans (show Below w.heap.size wr W from ⟨hb.os, hb.tape, hb.output, hb.size, fun k hk => hb.block k (Nat.lt_of_lt_of_le hk hW.out.size)⟩))
      obtain ⟨n, a1, a2, n1, n2, rfl, rfl, hn, hn1, hn2, hpp⟩ := pv_both PVX.out PVY.out
      have HPP : Hid (0 < n → ∃ gp gp', a1 = some ⟨gp, 0, none⟩ ∧ a2 = some ⟨gp', 0, none⟩ ∧ Blk W gp (ppA tag) 108 ∧ Blk W gp' (ppA tag) 107) := Lib.hid (fun c => by
        obtain ⟨gp, gp', h1, h2, h3, h4⟩ := hpp c
        exact ⟨gp, gp', h1, h2, Blk.of_below (w := wr.drew) h3 hb, Blk.of_below (w := wr.drew) h4 hb⟩)
      have x0 := kx.cell 0
      have x1 := kx.cell 1
      have x2 := kx.cell 2
      have x3 := kx.cell 3
      have x4 := kx.cell 4
      have x5 := kx.cell 5
      have x6 := kx.cell 6
      have x7 := kx.cell 7
      have x8 := kx.cell 8
      have x9 := kx.cell 9
      have x19 := kx.cell 23
      have y0 := ky.cell 0
      have y1 := ky.cell 1
      have y2 := ky.cell 2
      have y3 := ky.cell 3
      have y4 := ky.cell 4
      have y5 := ky.cell 5
      have y6 := ky.cell 6
      have y7 := ky.cell 7
      have y8 := ky.cell 8
      have y9 := ky.cell 9
      have y19 := ky.cell 23
      simp only [pkA, rpkA, List.getElem?_toArray, List.getElem?_cons_zero, List.getElem?_cons_succ] at x0 x1 x2 x3 x4 x5 x6 x7 x8 x9 x19 y0 y1 y2 y3 y4 y5 y6 y7 y8 y9 y19
      have f1 : (t.toList == t.toList) = true := by simp
      have f2 : (pl.toList == pl.toList) = true := by simp
      have KX := Lib.hid kx
      have KY := Lib.hid ky
      have II : Hid (i < L.length) := Lib.hid hil
      clear kx ky hb hpp lx ly hne s0 X1 Y1 XR YR PVX PVY
      go_wp2
      have hzz : Hid (wr.heap.size ≤ wr.heap.size) := Lib.hid (Nat.le_refl _)
      clear hzz
      go_loopw [111] (fun jv W2 => ∃ j : Nat, jv = .int .i64 j ∧ j ≤ n ∧ Hid (Below W.heap.size W W2)) (fun jv _ => ((n : Int) - intOf jv).toNat)
      case atStart => exact ⟨0, rfl, Nat.zero_le _, Lib.hid (Below.refl _ _)⟩
      case round =>
        obtain ⟨j, rfl, hj, hV⟩ := hrel
        have KX2 := Lib.hid (KX.out.of_below hV.out)
        have KY2 := Lib.hid (KY.out.of_below hV.out)
        have x9 := KX2.out.cell 9
        have x8 := KX2.out.cell 8
        have y9 := KY2.out.cell 9
        simp only [pkA, rpkA, List.getElem?_toArray, List.getElem?_cons_zero, List.getElem?_cons_succ] at x8 x9 y9
        by_cases hjn : j < n
        · obtain ⟨gp, gp', rfl, rfl, q1, q2⟩ := HPP.out (by omega)
          have q3 := q1.of_below hV.out
          have q4 := q2.of_below hV.out
          obtain rfl : n = 1 := by omega
          obtain rfl : j = 0 := by omega
          have a0 := q3.cell 0
          have a1 := q3.cell 1
          have a2 := q3.cell 2
          have a3 := q3.cell 3
          have b0 := q4.cell 0
          have b1 := q4.cell 1
          have b2 := q4.cell 2
          have b3 := q4.cell 3
          simp only [ppA, List.getElem?_toArray, List.getElem?_cons_zero, List.getElem?_cons_succ] at a0 a1 a2 a3 b0 b1 b2 b3
          have f3 : (tag.toList == tag.toList) = true := by simp
          clear q1 q2 q3 q4
          go_wp2
          go_quiet (fail)
          go_wp2
          go_roundw
          case rel => exact ⟨1, by go_num, by omega, Lib.hid (hV.out.trans ((drewN_below _ _).mono hV.out.size))⟩
          case measure => simp [intOf]
        · obtain rfl : j = n := by omega
          have hnn : ¬ ((j : Int) < (j : Int)) := by omega
          go_wp2
          have HV3 := Lib.hid (hW2.out.trans (hV.out.mono hW2.out.size))
          clear x8 x9 y9 hnn hj
          go_loopw [129] (fun jv W2 => jv = .int .i64 0 ∧ Hid (Below w.heap.size w W2)) (fun _ _ => 0)
          case atStart => exact ⟨rfl, HV3⟩
          case round =>
            obtain ⟨rfl, hV3⟩ := hrel
            go_wp2
            go_roundw
            case rel => exact ⟨i + 1, by go_num, by have := II.out; omega, hV3⟩
            case measure => have := II.out; simp [intOf]; omega
    · obtain rfl : i = L.length := by omega
      go_wp2
      go_ret
      exact ⟨rfl, hW.out⟩
end Go.Proofs.Ytnclobnnnihpfaa
