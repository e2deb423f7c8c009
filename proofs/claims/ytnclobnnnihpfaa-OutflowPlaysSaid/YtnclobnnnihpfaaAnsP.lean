/- What Answer needs: a cell of a flight is set; the law's packets. -/
import Derived.Test.YtnclobnnnihpfaaIdxF
namespace Go.Proofs.Ytnclobnnnihpfaa
set_option linter.unusedVariables false
open Go.RowKit Go.Maps

/-- The cells of a packet that answers. -/
def ansA (k id code : Int) : Array Value :=
  #[.int .i64 k, .bool false, .bool false, .int .i64 0, .int .i64 id, .string ⟨#[]⟩, .string ⟨#[]⟩, .int .u8 code, .slice none 0 0, .slice none 0 0, .string ⟨#[]⟩, .bool false, .int .i64 0, .bool false, .string ⟨#[]⟩, .string ⟨#[]⟩, .int .i64 0, .bool false, .slice none 0 0, .bool false, .bool false, .string ⟨#[]⟩, .string ⟨#[]⟩, .bool false, .slice none 0 0, .slice none 0 0]
theorem Sl.put {B n size : Nat} {w : World} {e : TypeId} {xs : List Value} {g o cap : Nat} (h : Sl B w e size (.slice (some ⟨g, o, none⟩) n cap) n xs) (j : Nat) (u : Value) :
    Sl B (w.setCell ⟨g, o + j, none⟩ u) e size (.slice (some ⟨g, o, none⟩) n cap) n (xs.set j u) := by
  refine ⟨by rw [List.length_set]; exact h.1, ?_⟩
  rcases h.2 with ⟨c, _⟩ | ⟨g', o', cap', cur, hv, hb, hg, h4, h5, h6, h7⟩
  · cases c
  · cases hv
    refine .inr ⟨g, o, cap, cur.setIfInBounds (o + j) u, rfl, hb, Blk.set (cs := cur) hg (o + j) u, h4, h5, by simpa using h6, ?_⟩
    rw [Array.toList_setIfInBounds, List.drop_set, if_neg (by omega), Nat.add_sub_cancel_left, List.take_set, h7]
theorem flL_rel : ∀ (l : List OF) (i : Nat), i < l.length → flL (l.modify i (fun x => { x with rel := true })) = (flL l).set (i * 7 + 6) (.bool true)
  | [], i, h => by cases h
  | y :: l, 0, h => by simp [flL, ofC]
  | y :: l, i + 1, h => by
    have := flL_rel l i (by simpa using h)
    rw [List.modify_succ_cons]
    show ofC y ++ flL (l.modify i _) = (ofC y ++ flL l).set ((i + 1) * 7 + 6) _
    have hy : (ofC y).length = 7 := rfl
    rw [List.set_append_right _ _ (by rw [hy]; omega), hy, this, show (i + 1) * 7 + 6 - 7 = i * 7 + 6 from by omega]
theorem flow_rel {B fp pb mb i g o cap : Nat} {s : FS} {x : OF} {vw : Value} {w : World} (h : FlowV B fp pb mb s (.slice (some ⟨g, o, none⟩) s.fl.length cap) vw w) (hx : s.fl[i]? = some x) (hq : x.m.qos = 2) :
    FlowV B fp pb mb (frel s i) (.slice (some ⟨g, o, none⟩) s.fl.length cap) vw (w.setCell ⟨g, o + (i * 7 + 6), none⟩ (.bool true)) ∧ Fr B (flowS mb) w (w.setCell ⟨g, o + (i * 7 + 6), none⟩ (.bool true)) := by
  have hin : i < s.fl.length := (List.getElem?_eq_some_iff.1 hx).1
  obtain ⟨cur, hg⟩ : ∃ cur, Blk w g cur 45 := by
    obtain ⟨o', ho⟩ : ∃ o', w.heap[g]? = some o' := ⟨_, Array.getElem?_eq_getElem (h.fl.lt g rfl).2⟩
    obtain ⟨cur, e⟩ := h.fl.obj g o' rfl ho
    subst e
    exact ⟨cur, ho⟩
  refine ⟨⟨h.ok.rel hx hq, h.hB, h.blk.other (blk_ne h.blk hg (by decide)) _ _, ?_, h.wt.set _ _ (fun c => h.wt.ne2 h.fl (by decide) g c rfl), h.pool.1, h.pool.2.1, h.pool.2.2.1.other (blk_ne h.pool.2.2.1 hg (by decide)) _ _, ?_⟩, (Fr.refl B _ w).set hg (h.fl.lt g rfl).1 (fun _ _ => flowS_cells (.inr (.inr (.inl rfl)))) _ _⟩
  · have := h.fl.put (i * 7 + 6) (.bool true)
    rw [← flL_rel s.fl i hin] at this
    show Sl B _ _ 7 _ (s.fl.modify i _).length (flL (s.fl.modify i _))
    rw [List.length_modify]
    exact this
  · have := h.pool.2.2.2.same (w' := w.setCell ⟨g, o + (i * 7 + 6), none⟩ (.bool true)) (Below.heap_setCell _ _ _ _ (h.pool.2.2.2.ne hg))
    show Ids mb (oids (s.fl.modify i _)) _
    rw [oids_modify]
    exact this
end Go.Proofs.Ytnclobnnnihpfaa
