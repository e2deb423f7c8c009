/- What goes out: packets in a slice of own memory. -/
import Derived.Test.YtnclobnnnihpfaaClone
import Derived.Test.YtnclobnnnihpfaaSlOps
import Derived.Test.YtnclobnnnihpfaaChain1
namespace Go.Proofs.Ytnclobnnnihpfaa
set_option linter.unusedVariables false
open Go.RowKit Go.Maps

def outL (L : List OP) (pvs : List Value) : List Value := (L.zip pvs).flatMap fun x => (opA x.1 x.2).toList
def OutAt (C : Nat) (w : World) (v : Value) (L : List OP) : Prop := ∃ pvs : List Value, pvs.length = L.length ∧ Sl C w 37 26 v L.length (outL L pvs) ∧ ∀ (i : Nat) p pv, L[i]? = some p → pvs[i]? = some pv → OpAt C w p pv
theorem PvAt.fr {C : Nat} {w w' : World} {tag : ByteArray} {pv : Value} {B : Nat} {S : Nat → Obj → Prop} (h : PvAt C w tag pv) (m : Fr B S w w') (h2 : ∀ k cs, ¬ S k (.cells cs 108 (0, 0))) : PvAt C w' tag pv := by
  rcases h with h | ⟨h1, g, h3, h4, h5⟩
  · exact .inl h
  · exact .inr ⟨h1, g, h3, h4, h5.fr m (h2 _ _)⟩
theorem PvAt.mono {C C' : Nat} {w : World} {tag : ByteArray} {pv : Value} (h : PvAt C w tag pv) (hC : C' ≤ C) : PvAt C' w tag pv := by
  rcases h with h | ⟨h1, g, h3, h4, h5⟩
  · exact .inl h
  · exact .inr ⟨h1, g, by omega, h4, h5⟩
theorem OpAt.fr {C : Nat} {w w' : World} {p : OP} {pv : Value} {B : Nat} {S : Nat → Obj → Prop} (h : OpAt C w p pv) (m : Fr B S w w') (h2 : ∀ k cs, ¬ S k (.cells cs 108 (0, 0))) : OpAt C w' p pv := by
  cases p with
  | pub x id dup => exact PvAt.fr (h : PvAt C w x.tag pv) m h2
  | rel id => exact h
theorem OutAt.nil (C : Nat) (w : World) : OutAt C w (.slice none 0 0) [] := ⟨[], rfl, Sl.nil _ _ _ _, fun i p pv h => by simp at h⟩
theorem OutAt.fr {C : Nat} {w w' : World} {v : Value} {L : List OP} {B : Nat} {S : Nat → Obj → Prop} (h : OutAt C w v L) (m : Fr B S w w') (h1 : ∀ k cs, v.ownBlock = some k → ¬ S k (.cells cs 37 (0, 0))) (h2 : ∀ k cs, ¬ S k (.cells cs 108 (0, 0))) : OutAt C w' v L := by
  obtain ⟨pvs, h3, h4, h5⟩ := h
  exact ⟨pvs, h3, h4.fr m h1, fun i p pv a b => (h5 i p pv a b).fr m h2⟩
theorem OutAt.below {C : Nat} {w w' : World} {v : Value} {L : List OP} (h : OutAt C w v L) (m : Below w.heap.size w w') : OutAt C w' v L :=
  h.fr (Fr.of_below (S := fun _ _ => False) m (Nat.le_refl _)) (fun _ _ _ c => c) (fun _ _ c => c)
theorem opA_size (p : OP) (pv : Value) : (opA p pv).size = 26 := by cases p <;> rfl
theorem outL_snoc {L : List OP} {pvs : List Value} (h : pvs.length = L.length) (p : OP) (pv : Value) : outL (L ++ [p]) (pvs ++ [pv]) = outL L pvs ++ (opA p pv).toList := by
  unfold outL
  rw [List.zip_append h.symm, List.flatMap_append]
  simp
theorem OpAt.one {C : Nat} {w : World} {p : OP} {pv : Value} (h : OpAt C w p pv) : ∀ u ∈ (opA p pv).toList, u.oneCell' = true := by
  have hp : pv.oneCell' = true := by
    cases p with
    | pub x id dup => rcases (h : PvAt C w x.tag pv) with ⟨_, rfl⟩ | ⟨_, g, _, rfl, _⟩ <;> rfl
    | rel id => rw [(h : pv = _)]; rfl
  intro u hu
  cases p with
  | pub x id dup =>
    have := pk_one 3 dup x.retain x.qos id x.topic x.payload pv hp
    exact (Array.all_eq_true'.1 this) u (Array.mem_toList_iff.1 hu)
  | rel id =>
    have := pk_one 6 false false 0 id ⟨#[]⟩ ⟨#[]⟩ pv hp
    exact (Array.all_eq_true'.1 this) u (Array.mem_toList_iff.1 hu)
/-- 'out = append(out, p)', for the walk. -/
theorem wpList_out {ops : Array Oper} {rest : List Oper} {o : Oper} {a : Act} {w : World} {Q : Exit → Act → World → Prop} (s x : Operand) (C : Nat) (v : Value) (L : List OP) (p : OP) (pv : Value) (b : Nat)
    (hgd : o.guard = none) (ho : o.op = .call { callee := .builtin .append, args := #[s, x], argTypes := #[27, 27] })
    (hs : a.eval s = v) (hx : a.eval x = .slice (some ⟨b, 0, none⟩) 1 1) (h : OutAt C w v L) (hp : OpAt C w p pv) (hb : Blk w b (opA p pv) 37) (hC : C ≤ w.heap.size) (hl : L.length ≤ 1048576)
    (hK : ∀ v' w', OutAt C w' v' (L ++ [p]) → w.grownBy w' v.ownBlock → (v'.ownBlock = v.ownBlock ∨ v'.ownBlock = some w.heap.size) → wpList Try.prog ops Q rest (a.put o.dst v') w') :
    wpList Try.prog ops Q (o :: rest) a w := by
  obtain ⟨pvs, h3, h4, h5⟩ := h
  obtain ⟨i1, hi1, hi1z, hi1s, hi1b⟩ := info_parts info_pk
  refine wpList_append_sl s x 27 i1 _ _ b (opA p pv) hgd ho Try.underlying27 hi1 hi1z hi1s hi1b rfl (by decide) (opA_size p pv) hp.one hs hx h4 hb hC (by unfold maxLen; omega) (by omega) ?_
  intro v' w' r1 r2 r3
  refine hK v' w' ⟨pvs ++ [pv], by simp [h3], by rw [outL_snoc h3, List.length_append]; exact r1, fun i q qv a b => ?_⟩ r2 r3
  have hfr : Fr 0 (fun k _ => v.ownBlock = some k) w w' := (Fr.refl 0 _ w).grown r2 (Nat.zero_le _) (fun _ _ => Nat.zero_le _) (fun k o hk _ => .inl hk)
  have hold : OpAt C w q qv := by
    rcases Nat.lt_or_ge i L.length with c | c
    · rw [List.getElem?_append_left c] at a
      rw [List.getElem?_append_left (by omega)] at b
      exact h5 i q qv a b
    · rw [List.getElem?_append_right c] at a
      rw [List.getElem?_append_right (by omega), h3] at b
      cases hj : i - L.length with
      | zero => rw [hj] at a b; cases a; cases b; exact hp
      | succ j => rw [hj] at a; cases a
  cases q with
  | rel id => exact hold
  | pub y id dup =>
    rcases (hold : PvAt C w y.tag qv) with c | ⟨c1, g, c2, c3, c4⟩
    · exact .inl c
    · exact .inr ⟨c1, g, c2, c3, c4.grown r2 (h4.ne c4 (by decide))⟩
end Go.Proofs.Ytnclobnnnihpfaa
