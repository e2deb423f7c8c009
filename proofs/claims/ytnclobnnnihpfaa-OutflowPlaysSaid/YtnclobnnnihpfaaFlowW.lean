/- outflow.Flow: New, End, Flights, Waiting. -/
import Derived.Test.YtnclobnnnihpfaaFlow
namespace Go.Proofs.Ytnclobnnnihpfaa
set_option linter.unusedVariables false
open Go.RowKit Go.Maps

structure FlowV (B fp pb mb : Nat) (s : FS) (vf vw : Value) (w : World) : Prop where
  ok : FOk s
  hB : B ≤ fp
  blk : Blk w fp #[.pointer (some ⟨pb, 0, none⟩), .int .i64 s.most, .bool s.on, vf, vw] 90
  fl : Sl B w 45 7 vf s.fl.length (flL s.fl)
  wt : Sl B w 43 5 vw s.wt.length (wtL s.wt)
  pool : PoolAt B pb mb s.taken (oids s.fl) w
def FlowAt (B fp pb mb : Nat) (s : FS) (w : World) : Prop := ∃ vf vw, FlowV B fp pb mb s vf vw w
/-- The types of a flow's blocks. -/
def flowT (t : TypeId) : Prop := t = 90 ∨ t = 110 ∨ t = 45 ∨ t = 43
/-- What a flow's methods turn. -/
def flowS (mb : Nat) (k : Nat) (o : Obj) : Prop := (k = mb ∧ ∃ es c, o = .map es c) ∨ ∃ cs t fz, o = .cells cs t fz ∧ flowT t
theorem flowS_cells {mb k : Nat} {cs : Array Value} {t : TypeId} {fz : Nat × Nat} (h : flowT t) : flowS mb k (.cells cs t fz) := .inr ⟨cs, t, fz, rfl, h⟩
theorem FlowV.below {B fp pb mb : Nat} {s : FS} {vf vw : Value} {w w' : World} (h : FlowV B fp pb mb s vf vw w) (m : Below w.heap.size w w') : FlowV B fp pb mb s vf vw w' :=
  ⟨h.ok, h.hB, h.blk.of_below m, h.fl.below m, h.wt.below m, h.pool.below m⟩
theorem FlowAt.below {B fp pb mb : Nat} {s : FS} {w w' : World} (h : FlowAt B fp pb mb s w) (m : Below w.heap.size w w') : FlowAt B fp pb mb s w' := by
  obtain ⟨vf, vw, h⟩ := h
  exact ⟨vf, vw, h.below m⟩
theorem FlowAt.ok {B fp pb mb : Nat} {s : FS} {w : World} (h : FlowAt B fp pb mb s w) : FOk s := by obtain ⟨vf, vw, h⟩ := h; exact h.ok
theorem FlowV.sz {B fp pb mb : Nat} {s : FS} {vf vw : Value} {w : World} (h : FlowV B fp pb mb s vf vw w) : B ≤ w.heap.size := Nat.le_trans h.hB (Nat.le_of_lt h.blk.lt)
theorem FlowAt.sz {B fp pb mb : Nat} {s : FS} {w : World} (h : FlowAt B fp pb mb s w) : B ≤ w.heap.size := by obtain ⟨vf, vw, h⟩ := h; exact h.sz
theorem blk_ne {w : World} {a b : Nat} {cs cs' : Array Value} {T T' : TypeId} (h1 : Blk w a cs T) (h2 : Blk w b cs' T') (hT : T ≠ T') : a ≠ b := by
  intro e
  subst e
  unfold Blk at h1 h2
  rw [h1] at h2
  injection h2 with h2
  injection h2 with _ h2 _
  exact hT h2
theorem Ids.ne {w : World} {mb b : Nat} {l : List Int} {cs : Array Value} {T : TypeId} (h : Ids mb l w) (hb : Blk w b cs T) : mb ≠ b := by
  intro e
  obtain ⟨es, c, h1⟩ := h.obj
  unfold Blk at hb
  rw [← e, h1] at hb
  cases hb
/-- A field of the flow is set: the rest stays. -/
theorem FlowV.parts {B fp pb mb : Nat} {s : FS} {vf vw : Value} {w : World} (H : FlowV B fp pb mb s vf vw w) (i : Nat) (v : Value) :
    Blk (w.setCell ⟨fp, i, none⟩ v) fp ((#[.pointer (some ⟨pb, 0, none⟩), .int .i64 s.most, .bool s.on, vf, vw] : Array Value).setIfInBounds i v) 90 ∧ Sl B (w.setCell ⟨fp, i, none⟩ v) 45 7 vf s.fl.length (flL s.fl) ∧
    Sl B (w.setCell ⟨fp, i, none⟩ v) 43 5 vw s.wt.length (wtL s.wt) ∧ PoolAt B pb mb s.taken (oids s.fl) (w.setCell ⟨fp, i, none⟩ v) ∧ Fr B (flowS mb) w (w.setCell ⟨fp, i, none⟩ v) :=
  ⟨H.blk.set i v, H.fl.set i v (H.fl.ne H.blk (by decide)), H.wt.set i v (H.wt.ne H.blk (by decide)),
    ⟨H.pool.1, H.pool.2.1, H.pool.2.2.1.other (blk_ne H.pool.2.2.1 H.blk (by decide)) i v, H.pool.2.2.2.same (Below.heap_setCell _ _ _ _ (H.pool.2.2.2.ne H.blk))⟩,
    (Fr.refl B _ w).set H.blk H.hB (fun _ _ => flowS_cells (.inl rfl)) i v⟩
theorem flowS_not {mb k : Nat} {cs : Array Value} {t : TypeId} {fz : Nat × Nat} (h : ¬ flowT t) : ¬ flowS mb k (.cells cs t fz) := by
  rintro (⟨_, es, c, e⟩ | ⟨cs', t', fz', e, ht⟩)
  · cases e
  · cases e; exact h ht
/-- What a pool's method turns, a flow's may. -/
theorem Fr.pool {B pb mb : Nat} {t : Int} {l : List Int} {w w' : World} (m : Fr B (poolS pb mb) w w') (h : PoolAt B pb mb t l w) : Fr B (flowS mb) w w' :=
  m.weaken (Nat.le_refl _) (by
    rintro k o ho (rfl | rfl)
    · have hb := h.2.2.1
      unfold Blk at hb
      rw [hb] at ho
      cases ho
      exact flowS_cells (.inr (.inl rfl))
    · obtain ⟨es, c, he⟩ := h.2.2.2.obj
      rw [he] at ho
      cases ho
      exact .inl ⟨rfl, es, c, rfl⟩)
theorem Sl.pool {B B' B'' pb mb size n : Nat} {t : Int} {l : List Int} {e : TypeId} {v : Value} {xs : List Value} {w w' : World} (hs : Sl B w e size v n xs) (m : Fr B' (poolS pb mb) w w') (h : PoolAt B'' pb mb t l w) (he : 110 ≠ e) : Sl B w' e size v n xs :=
  hs.fr m (by
    rintro k cs hk (rfl | rfl)
    · exact hs.ne h.2.2.1 he hk
    · obtain ⟨o, ho⟩ : ∃ o, w.heap[k]? = some o := ⟨_, Array.getElem?_eq_getElem (hs.lt k hk).2⟩
      obtain ⟨cur, e1⟩ := hs.obj k o hk ho
      obtain ⟨es, c, e2⟩ := h.2.2.2.obj
      rw [e2] at ho
      cases ho
      cases e1)
theorem Blk.pool {B' B'' pb mb b : Nat} {t : Int} {l : List Int} {T : TypeId} {cs : Array Value} {w w' : World} (hb : Blk w b cs T) (m : Fr B' (poolS pb mb) w w') (h : PoolAt B'' pb mb t l w) (he : 110 ≠ T) : Blk w' b cs T :=
  hb.fr m (by
    rintro (rfl | rfl)
    · exact blk_ne h.2.2.1 hb he rfl
    · exact h.2.2.2.ne hb rfl)
set_option maxHeartbeats 1000000 in
theorem fnew_any (n : Int) (w : World) (h0 : -9223372036854775808 ≤ n) (h1 : n ≤ 9223372036854775807) :
    Calls Try.prog 8 #[.int .i64 n] w fun e w' => ∃ fp pb mb, e = .returned (.pointer (some ⟨fp, 0, none⟩)) ∧ FlowAt w.heap.size fp pb mb ⟨0, bounded n, false, [], []⟩ w' ∧ Below w.heap.size w w' := by
  have CB := fun W => Lib.hid (bounded_any n W h0 h1)
  go_enter Try.func8, Try.ntmps8
  go_wp2_with (first | (go_at_call 24; (with_reducible refine (pnew_any _).mono ?_)) | (fail))
  rintro e w1 ⟨rfl, hp, hb⟩
  have HP := Lib.hid hp
  have HB := Lib.hid hb
  clear hp hb
  go_wp2_with (first | (go_at_call 25; (with_reducible refine (CB _).out.mono ?_); rintro e w2 ⟨rfl, rfl⟩) | (fail))
  go_ret
  refine ⟨_, _, _, rfl, ⟨.slice none 0 0, .slice none 0 0, FOk.new n, HB.out.size, blk_at _ _ _ rfl, Sl.nil _ _ _ _, Sl.nil _ _ _ _, HP.out.below ((Below.refl _ _).alloc (Nat.le_refl _) _)⟩, HB.out.alloc HB.out.size _⟩
set_option maxHeartbeats 1000000 in
theorem fend_any (B fp pb mb : Nat) (s : FS) (w : World) (h : FlowAt B fp pb mb s w) :
    Calls Try.prog 14 #[.pointer (some ⟨fp, 0, none⟩)] w fun e w' => e = .returned (.tuple #[]) ∧ FlowAt B fp pb mb { s with on := false } w' ∧ Fr B (flowS mb) w w' := by
  obtain ⟨vf, vw, h⟩ := h
  have H := Lib.hid h
  have c2 := h.blk.cell 2
  have f2 := h.blk.frozen 2
  simp only [List.getElem?_toArray, List.getElem?_cons_zero, List.getElem?_cons_succ] at c2
  clear h
  go_enter Try.func14, Try.ntmps14
  go_wp2
  go_end0
  obtain ⟨p1, p2, p3, p4, p5⟩ := H.out.parts 2 (.bool false)
  exact ⟨rfl, ⟨vf, vw, H.out.ok.fend, H.out.hB, p1, p2, p3, p4⟩, p5⟩
end Go.Proofs.Ytnclobnnnihpfaa
