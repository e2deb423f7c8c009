/- The document's flow: what goes out. -/
import Derived.Test.YtnclobnnnihpfaaReA
import Derived.Test.YtnclobnnnihpfaaFlowL
namespace Go.Proofs.Ytnclobnnnihpfaa
set_option linter.unusedVariables false
open Go.RowKit Go.Maps

theorem rinfo_f : (Try.prog.info? 102).map (fun i => (i.zero, i.size, i.bytes)) = some (some (.agg #[.int .i64 0, .string ⟨#[]⟩, .string ⟨#[]⟩, .int .i64 0, .bool false, .string ⟨#[]⟩, .bool false]), 7, 80) := by kernel_rfl
theorem rinfo_m : (Try.prog.info? 82).map (fun i => (i.zero, i.size, i.bytes)) = some (some (.agg #[.string ⟨#[]⟩, .string ⟨#[]⟩, .int .i64 0, .bool false, .string ⟨#[]⟩]), 5, 64) := by kernel_rfl
theorem rinfo_pk : (Try.prog.info? 56).map (fun i => (i.zero, i.size, i.bytes)) = some (some (.agg rzpk), 26, 328) := by kernel_rfl
theorem rinfo_fls : (Try.prog.info? 77).map (fun i => i.size) = some 1 := by kernel_rfl
theorem rinfo_oms : (Try.prog.info? 78).map (fun i => i.size) = some 1 := by kernel_rfl
theorem rom_size : (Try.prog.info? 82).map (·.size) = some 5 := by kernel_rfl
def routL (L : List OP) (pvs : List Value) : List Value := (L.zip pvs).flatMap fun x => (ropA x.1 x.2).toList
def ROutAt (C : Nat) (w : World) (v : Value) (L : List OP) : Prop := ∃ pvs : List Value, pvs.length = L.length ∧ Sl C w 56 26 v L.length (routL L pvs) ∧ ∀ (i : Nat) p pv, L[i]? = some p → pvs[i]? = some pv → ROpAt C w p pv
theorem RPvAt.fr {C : Nat} {w w' : World} {tag : ByteArray} {pv : Value} {B : Nat} {S : Nat → Obj → Prop} (h : RPvAt C w tag pv) (m : Fr B S w w') (h2 : ∀ k cs, ¬ S k (.cells cs 107 (0, 0))) : RPvAt C w' tag pv := by
  rcases h with h | ⟨h1, g, h3, h4, h5⟩
  · exact .inl h
  · exact .inr ⟨h1, g, h3, h4, h5.fr m (h2 _ _)⟩
theorem RPvAt.mono {C C' : Nat} {w : World} {tag : ByteArray} {pv : Value} (h : RPvAt C w tag pv) (hC : C' ≤ C) : RPvAt C' w tag pv := by
  rcases h with h | ⟨h1, g, h3, h4, h5⟩
  · exact .inl h
  · exact .inr ⟨h1, g, by omega, h4, h5⟩
theorem ROpAt.fr {C : Nat} {w w' : World} {p : OP} {pv : Value} {B : Nat} {S : Nat → Obj → Prop} (h : ROpAt C w p pv) (m : Fr B S w w') (h2 : ∀ k cs, ¬ S k (.cells cs 107 (0, 0))) : ROpAt C w' p pv := by
  cases p with
  | pub x id dup => exact RPvAt.fr (h : RPvAt C w x.tag pv) m h2
  | rel id => exact h
theorem ROutAt.nil (C : Nat) (w : World) : ROutAt C w (.slice none 0 0) [] := ⟨[], rfl, Sl.nil _ _ _ _, fun i p pv h => by simp at h⟩
theorem ROutAt.fr {C : Nat} {w w' : World} {v : Value} {L : List OP} {B : Nat} {S : Nat → Obj → Prop} (h : ROutAt C w v L) (m : Fr B S w w') (h1 : ∀ k cs, v.ownBlock = some k → ¬ S k (.cells cs 56 (0, 0))) (h2 : ∀ k cs, ¬ S k (.cells cs 107 (0, 0))) : ROutAt C w' v L := by
  obtain ⟨pvs, h3, h4, h5⟩ := h
  exact ⟨pvs, h3, h4.fr m h1, fun i p pv a b => (h5 i p pv a b).fr m h2⟩
theorem ROutAt.below {C : Nat} {w w' : World} {v : Value} {L : List OP} (h : ROutAt C w v L) (m : Below w.heap.size w w') : ROutAt C w' v L :=
  h.fr (Fr.of_below (S := fun _ _ => False) m (Nat.le_refl _)) (fun _ _ _ c => c) (fun _ _ c => c)
theorem ropA_size (p : OP) (pv : Value) : (ropA p pv).size = 26 := by cases p <;> rfl
theorem routL_snoc {L : List OP} {pvs : List Value} (h : pvs.length = L.length) (p : OP) (pv : Value) : routL (L ++ [p]) (pvs ++ [pv]) = routL L pvs ++ (ropA p pv).toList := by
  unfold routL
  rw [List.zip_append h.symm, List.flatMap_append]
  simp
theorem ROpAt.one {C : Nat} {w : World} {p : OP} {pv : Value} (h : ROpAt C w p pv) : ∀ u ∈ (ropA p pv).toList, u.oneCell' = true := by
  have hp : pv.oneCell' = true := by
    cases p with
    | pub x id dup => rcases (h : RPvAt C w x.tag pv) with ⟨_, rfl⟩ | ⟨_, g, _, rfl, _⟩ <;> rfl
    | rel id => rw [(h : pv = _)]; rfl
  intro u hu
  cases p with
  | pub x id dup =>
    have := rpk_one 3 dup x.retain x.qos id x.topic x.payload pv hp
    exact (Array.all_eq_true'.1 this) u (Array.mem_toList_iff.1 hu)
  | rel id =>
    have := rpk_one 6 false false 0 id ⟨#[]⟩ ⟨#[]⟩ pv hp
    exact (Array.all_eq_true'.1 this) u (Array.mem_toList_iff.1 hu)
/-- 'out = append(out, p)', for the walk. -/
theorem rwpList_out {ops : Array Oper} {rest : List Oper} {o : Oper} {a : Act} {w : World} {Q : Exit → Act → World → Prop} (s x : Operand) (C : Nat) (v : Value) (L : List OP) (p : OP) (pv : Value) (b : Nat)
    (hgd : o.guard = none) (ho : o.op = .call { callee := .builtin .append, args := #[s, x], argTypes := #[72, 72] })
    (hs : a.eval s = v) (hx : a.eval x = .slice (some ⟨b, 0, none⟩) 1 1) (h : ROutAt C w v L) (hp : ROpAt C w p pv) (hb : Blk w b (ropA p pv) 56) (hC : C ≤ w.heap.size) (hl : L.length ≤ 1048576)
    (hK : ∀ v' w', ROutAt C w' v' (L ++ [p]) → w.grownBy w' v.ownBlock → (v'.ownBlock = v.ownBlock ∨ v'.ownBlock = some w.heap.size) → wpList Try.prog ops Q rest (a.put o.dst v') w') :
    wpList Try.prog ops Q (o :: rest) a w := by
  obtain ⟨pvs, h3, h4, h5⟩ := h
  obtain ⟨i1, hi1, hi1z, hi1s, hi1b⟩ := info_parts rinfo_pk
  refine wpList_append_sl s x 72 i1 _ _ b (ropA p pv) hgd ho Try.underlying72 hi1 hi1z hi1s hi1b rfl (by decide) (ropA_size p pv) hp.one hs hx h4 hb hC (by unfold maxLen; omega) (by omega) ?_
  intro v' w' r1 r2 r3
  refine hK v' w' ⟨pvs ++ [pv], by simp [h3], by rw [routL_snoc h3, List.length_append]; exact r1, fun i q qv a b => ?_⟩ r2 r3
  have hfr : Fr 0 (fun k _ => v.ownBlock = some k) w w' := (Fr.refl 0 _ w).grown r2 (Nat.zero_le _) (fun _ _ => Nat.zero_le _) (fun k o hk _ => .inl hk)
  have hold : ROpAt C w q qv := by
    rcases Nat.lt_or_ge i L.length with c | c
    · rw [List.getElem?_append_left c] at a
      rw [List.getElem?_append_left (by omega)] at b
      exact h5 i q qv a b
    · rw [List.getElem?_append_right c] at a
      rw [List.getElem?_append_right (by omega), h3] at b
      cases hj : i - L.length with
      | zero => rw [hj] at a b; cases a; cases b; exact hp
      | succ j => rw [hj] at a; cases a
  cases q with
  | rel id => exact hold
  | pub y id dup =>
    rcases (hold : RPvAt C w y.tag qv) with c | ⟨c1, g, c2, c3, c4⟩
    · exact .inl c
    · exact .inr ⟨c1, g, c2, c3, c4.grown r2 (h4.ne c4 (by decide))⟩
theorem ROutAt.sl {C : Nat} {w : World} {v : Value} {L : List OP} (h : ROutAt C w v L) : ∃ xs, Sl C w 56 26 v L.length xs := by
  obtain ⟨pvs, _, h, _⟩ := h
  exact ⟨_, h⟩
theorem ROpAt.below {C : Nat} {w w' : World} {p : OP} {pv : Value} (h : ROpAt C w p pv) (m : Below w.heap.size w w') : ROpAt C w' p pv :=
  h.fr (Fr.of_below (S := fun _ _ => False) m (Nat.le_refl _)) (fun _ _ c => c)
/-- '[]Packet{p}', for the walk. -/
theorem rwpList_pkS {ops : Array Oper} {rest : List Oper} {o : Oper} {a : Act} {w : World} {Q : Exit → Act → World → Prop} (x : Operand) (cs : Array Value) (hc : cs.size = 26)
    (hgd : o.guard = none) (ho : o.op = .buildSlice 72 1 #[(0, x)]) (hx : a.eval x = .agg cs) (Z : World) (hZ : w.alloc (.cells cs 56) = Z)
    (h : wpList Try.prog ops Q rest (a.put o.dst (.slice (some ⟨w.heap.size, 0, none⟩) 1 1)) Z) : wpList Try.prog ops Q (o :: rest) a w := by
  obtain ⟨ip, hip, hipz, hips, hipb⟩ := info_parts rinfo_pk
  refine wpList_buildSlice hgd 72 56 1 _ ho cs ip _ Try.underlying72 hip hipz (by rw [hips]; decide) (by rw [hips]; decide) ?_ (by rw [hZ]; exact h)
  rw [hips]
  simp only [List.map_toArray, List.map_cons, List.map_nil, hx]
  exact pk_fill cs _ hc cs.toList (by simp) (by simpa using hc)
theorem routL_get : ∀ (L : List OP) (pvs : List Value) (i : Nat) (p : OP) (pv : Value), L[i]? = some p → pvs[i]? = some pv → ∀ j u, (ropA p pv).toList[j]? = some u → (routL L pvs)[i * 26 + j]? = some u
  | [], pvs, i, p, pv, h, h2, j, u, hu => by cases h
  | x :: L, [], i, p, pv, h, h2, j, u, hu => by cases h2
  | x :: L, y :: pvs, 0, p, pv, h, h2, j, u, hu => by
    cases h
    cases h2
    show ((ropA x y).toList ++ routL L pvs)[0 * 26 + j]? = some u
    rw [Nat.zero_mul, Nat.zero_add, List.getElem?_append_left (List.getElem?_eq_some_iff.1 hu).1]
    exact hu
  | x :: L, y :: pvs, i + 1, p, pv, h, h2, j, u, hu => by
    show ((ropA x y).toList ++ routL L pvs)[(i + 1) * 26 + j]? = some u
    have hy : (ropA x y).toList.length = 26 := ropA_size x y
    rw [List.getElem?_append_right (by rw [hy]; omega), hy, show (i + 1) * 26 + j - 26 = i * 26 + j from by omega]
    exact routL_get L pvs i p pv (by simpa using h) (by simpa using h2) j u hu
/-- A packet's cells among what goes out. -/
theorem ROutAt.at {C : Nat} {w : World} {v : Value} {L : List OP} (h : ROutAt C w v L) {i : Nat} {p : OP} (hi : L[i]? = some p) :
    ∃ g o cap pv, v = .slice (some ⟨g, o, none⟩) L.length cap ∧ L.length ≤ cap ∧ cap ≤ maxLen ∧ ROpAt C w p pv ∧ ∀ j u, (ropA p pv).toList[j]? = some u → w.cell? ⟨g, o + i * 26 + j, none⟩ = some u := by
  obtain ⟨pvs, h1, h2, h3⟩ := h
  have hlt := (List.getElem?_eq_some_iff.1 hi).1
  obtain ⟨pv, hpv⟩ : ∃ pv, pvs[i]? = some pv := ⟨_, List.getElem?_eq_getElem (by omega)⟩
  obtain ⟨g, o, cap, rfl, _, _, h4, h5, h6⟩ := h2.at (by omega)
  exact ⟨g, o, cap, pv, rfl, h4, h5, h3 i p pv hi hpv, fun j u hu => by rw [Nat.add_assoc]; exact h6 _ u (routL_get L pvs i p pv hi hpv j u hu)⟩
theorem rop_one {C : Nat} {w : World} {p : OP} {pv : Value} (h : ROpAt C w p pv) : (ropA p pv).all (·.oneCell') = true := Array.all_eq_true'.2 fun u hu => h.one u (Array.mem_toList_iff.2 hu)
end Go.Proofs.Ytnclobnnnihpfaa
