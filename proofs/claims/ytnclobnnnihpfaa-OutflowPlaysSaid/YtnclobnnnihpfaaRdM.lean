/- The document's flow (aqueductref14.Flow) in memory; the append of one number. -/
import Derived.Test.YtnclobnnnihpfaaRdS
import Derived.Test.YtnclobnnnihpfaaOut
import Derived.Test.YtnclobnnnihpfaaFlowP
import Derived.Test.YtnclobnnnihpfaaOver
namespace Go.Proofs.Ytnclobnnnihpfaa
set_option linter.unusedVariables false
open Go.RowKit Go.Maps
theorem info_i64 : (Try.prog.info? 3).map (fun i => (i.zero, i.size, i.bytes)) = some (some (.int .i64 0), 1, 8) := by kernel_rfl
theorem intsL_snoc (l : List Int) (x : Int) : intsL (l ++ [x]) = intsL l ++ [.int .i64 x] := by simp [intsL]
theorem wpList_i64 {ops : Array Oper} {rest : List Oper} {o : Oper} {a : Act} {w : World} {Q : Exit → Act → World → Prop} (s x : Operand) (B n : Nat) (v : Value) (l : List Int) (id : Int) (b : Nat)
    (hgd : o.guard = none) (ho : o.op = .call { callee := .builtin .append, args := #[s, x], argTypes := #[50, 50] })
    (hs : a.eval s = v) (hx : a.eval x = .slice (some ⟨b, 0, none⟩) 1 1) (h : Sl B w 3 1 v n (intsL l)) (hb : Blk w b #[.int .i64 id] 3) (hB : B ≤ w.heap.size) (hl : n ≤ 1048576)
    (hK : ∀ v' w', Sl B w' 3 1 v' (n + 1) (intsL (l ++ [id])) → w.grownBy w' v.ownBlock → (v'.ownBlock = v.ownBlock ∨ v'.ownBlock = some w.heap.size) → wpList Try.prog ops Q rest (a.put o.dst v') w') :
    wpList Try.prog ops Q (o :: rest) a w := by
  obtain ⟨i1, hi1, hi1z, hi1s, hi1b⟩ := info_parts info_i64
  refine wpList_append_sl s x 50 i1 _ _ b #[.int .i64 id] hgd ho Try.underlying50 hi1 hi1z hi1s hi1b rfl (by decide) rfl (by intro u hu; simp at hu; subst hu; rfl) hs hx h hb hB (by unfold maxLen; omega) (by omega) ?_
  intro v' w' r1 r2 r3
  exact hK v' w' (by rw [intsL_snoc]; exact r1) r2 r3
theorem rput_perm (id : Int) : ∀ l : List Int, (rput id l).Perm (id :: l)
  | [] => List.Perm.refl _
  | x :: r => by
    unfold rput
    split
    · exact List.Perm.refl _
    · exact ((rput_perm id r).cons x).trans (List.Perm.swap id x r)
theorem idNext_congr {l l' : List Int} (h : ∀ i, i ∈ l ↔ i ∈ l') : ∀ (n : Nat) (t : Int), idNext l n t = idNext l' n t
  | 0, t => rfl
  | n + 1, t => by
    unfold idNext
    by_cases c : idStep t ∈ l
    · rw [if_pos c, if_pos ((h _).1 c), idNext_congr h n]
    · rw [if_neg c, if_neg (fun k => c ((h _).2 k))]
theorem nextId_perm {l l' : List Int} (h : l.Perm l') (t : Int) : nextId l t = nextId l' t := idNext_congr (fun i => h.mem_iff) 64 t
theorem put_perm {L l : List Int} (h : L.Perm l) (id : Int) : (rput id L).Perm (l ++ [id]) :=
  (rput_perm id L).trans ((h.cons id).trans (List.perm_append_comm (l₁ := [id]) (l₂ := l)))
theorem free_perm {L : List Int} {l : List OF} {i : Nat} {x : OF} (h : L.Perm (oids l)) (hx : l[i]? = some x) (hn : (oids l).Nodup) : (L.filter (fun y => y != x.id)).Perm (oids (l.eraseIdx i)) := by
  rw [oids_erase l i x hx hn, hn.erase_eq_filter]
  exact h.filter _

/-- The types of the document's flow's blocks. -/
def refT (t : TypeId) : Prop := t = 80 ∨ t = 116 ∨ t = 102 ∨ t = 82
/-- What its functions turn. -/
def refS (k : Nat) (o : Obj) : Prop := ∃ cs t fz, o = .cells cs t fz ∧ refT t
theorem refS_cells {k : Nat} {cs : Array Value} {t : TypeId} {fz : Nat × Nat} (h : refT t) : refS k (.cells cs t fz) := ⟨cs, t, fz, rfl, h⟩
theorem refS_not {k : Nat} {cs : Array Value} {t : TypeId} {fz : Nat × Nat} (h : ¬ refT t) : ¬ refS k (.cells cs t fz) := by
  rintro ⟨cs', t', fz', e, ht⟩
  cases e
  exact h ht
theorem refS_map (k : Nat) : ∀ es c, ¬ refS k (.map es c) := by
  rintro es c ⟨cs', t', fz', e, ht⟩
  cases e
theorem Sl.mono {B B' : Nat} {w : World} {e : TypeId} {size n : Nat} {v : Value} {xs : List Value} (h : Sl B w e size v n xs) (hB : B' ≤ B) : Sl B' w e size v n xs := by
  refine ⟨h.1, ?_⟩
  rcases h.2 with c | ⟨g, o, cap, cur, h1, h2, r⟩
  · exact .inl c
  · exact .inr ⟨g, o, cap, cur, h1, by omega, r⟩
/-- The document's pool. -/
structure DPool (B pb : Nat) (t : Int) (l : List Int) (vl : Value) (L : List Int) (w : World) : Prop where
  hP : B ≤ pb
  blk : Blk w pb #[.int .i64 64, .int .i64 t, vl] 116
  ls : Sl B w 3 1 vl L.length (intsL L)
  pm : L.Perm l
theorem DPool.below {B pb : Nat} {t : Int} {l L : List Int} {vl : Value} {w w' : World} (h : DPool B pb t l vl L w) (m : Below w.heap.size w w') : DPool B pb t l vl L w' :=
  ⟨h.hP, h.blk.of_below m, h.ls.below m, h.pm⟩
/-- What the pool's functions turn: its block alone. -/
def onlyS (p k : Nat) (_ : Obj) : Prop := k = p
theorem Fr.only {B B' pb : Nat} {t : Int} {l L : List Int} {vl : Value} {w w' : World} (m : Fr B (onlyS pb) w w') (h : DPool B' pb t l vl L w) : Fr B refS w w' :=
  m.weaken (Nat.le_refl _) (by
    rintro k o ho rfl
    have hb := h.blk
    unfold Blk at hb
    rw [hb] at ho
    cases ho
    exact refS_cells (.inr (.inl rfl)))
theorem Sl.only {B B' B'' pb size n : Nat} {t : Int} {l L : List Int} {vl : Value} {e : TypeId} {v : Value} {xs : List Value} {w w' : World} (hs : Sl B w e size v n xs) (m : Fr B' (onlyS pb) w w') (h : DPool B'' pb t l vl L w) (he : 116 ≠ e) : Sl B w' e size v n xs :=
  hs.fr m (by
    rintro k cs hk rfl
    exact hs.ne h.blk he hk)
theorem Blk.only {B' B'' pb b : Nat} {t : Int} {l L : List Int} {vl : Value} {T : TypeId} {cs : Array Value} {w w' : World} (hb : Blk w b cs T) (m : Fr B' (onlyS pb) w w') (h : DPool B'' pb t l vl L w) (he : 116 ≠ T) : Blk w' b cs T :=
  hb.fr m (by
    rintro rfl
    exact blk_ne h.blk hb he rfl)
structure DFlowV (B fp pb : Nat) (s : FS) (vf vw vl : Value) (L : List Int) (w : World) : Prop where
  ok : FOk s
  hB : B ≤ fp
  blk : Blk w fp #[.pointer (some ⟨pb, 0, none⟩), .int .i64 s.most, .bool s.on, vf, vw] 80
  fl : Sl B w 102 7 vf s.fl.length (flL s.fl)
  wt : Sl B w 82 5 vw s.wt.length (wtL s.wt)
  pool : DPool B pb s.taken (oids s.fl) vl L w
def DFlowAt (B fp pb : Nat) (s : FS) (w : World) : Prop := ∃ vf vw vl L, DFlowV B fp pb s vf vw vl L w
theorem DFlowV.below {B fp pb : Nat} {s : FS} {vf vw vl : Value} {L : List Int} {w w' : World} (h : DFlowV B fp pb s vf vw vl L w) (m : Below w.heap.size w w') : DFlowV B fp pb s vf vw vl L w' :=
  ⟨h.ok, h.hB, h.blk.of_below m, h.fl.below m, h.wt.below m, h.pool.below m⟩
theorem DFlowAt.below {B fp pb : Nat} {s : FS} {w w' : World} (h : DFlowAt B fp pb s w) (m : Below w.heap.size w w') : DFlowAt B fp pb s w' := by
  obtain ⟨vf, vw, vl, L, h⟩ := h
  exact ⟨vf, vw, vl, L, h.below m⟩
theorem DFlowAt.ok {B fp pb : Nat} {s : FS} {w : World} (h : DFlowAt B fp pb s w) : FOk s := by obtain ⟨vf, vw, vl, L, h⟩ := h; exact h.ok
theorem DFlowV.sz {B fp pb : Nat} {s : FS} {vf vw vl : Value} {L : List Int} {w : World} (h : DFlowV B fp pb s vf vw vl L w) : B ≤ w.heap.size := Nat.le_trans h.hB (Nat.le_of_lt h.blk.lt)
theorem DFlowAt.sz {B fp pb : Nat} {s : FS} {w : World} (h : DFlowAt B fp pb s w) : B ≤ w.heap.size := by obtain ⟨vf, vw, vl, L, h⟩ := h; exact h.sz
/-- A field of the flow is set: the rest stays. -/
theorem DFlowV.parts {B fp pb : Nat} {s : FS} {vf vw vl : Value} {L : List Int} {w : World} (H : DFlowV B fp pb s vf vw vl L w) (i : Nat) (v : Value) :
    Blk (w.setCell ⟨fp, i, none⟩ v) fp ((#[.pointer (some ⟨pb, 0, none⟩), .int .i64 s.most, .bool s.on, vf, vw] : Array Value).setIfInBounds i v) 80 ∧ Sl B (w.setCell ⟨fp, i, none⟩ v) 102 7 vf s.fl.length (flL s.fl) ∧
    Sl B (w.setCell ⟨fp, i, none⟩ v) 82 5 vw s.wt.length (wtL s.wt) ∧ DPool B pb s.taken (oids s.fl) vl L (w.setCell ⟨fp, i, none⟩ v) ∧ Fr B refS w (w.setCell ⟨fp, i, none⟩ v) :=
  ⟨H.blk.set i v, H.fl.set i v (H.fl.ne H.blk (by decide)), H.wt.set i v (H.wt.ne H.blk (by decide)),
    ⟨H.pool.hP, H.pool.blk.other (blk_ne H.pool.blk H.blk (by decide)) i v, H.pool.ls.set i v (H.pool.ls.ne H.blk (by decide)), H.pool.pm⟩,
    (Fr.refl B _ w).set H.blk H.hB (fun _ _ => refS_cells (.inl rfl)) i v⟩
/-- What the document's functions turn leaves the program's flow alone. -/
theorem PoolAt.ref {B B' pb mb : Nat} {t : Int} {l : List Int} {w w' : World} (h : PoolAt B pb mb t l w) (m : Fr B' refS w w') : PoolAt B pb mb t l w' :=
  ⟨h.1, h.2.1, h.2.2.1.fr m (refS_not (by unfold refT; decide)), h.2.2.2.fr m (refS_map _)⟩
theorem FlowAt.ref {B B' fp pb mb : Nat} {s : FS} {w w' : World} (h : FlowAt B fp pb mb s w) (m : Fr B' refS w w') : FlowAt B fp pb mb s w' := by
  obtain ⟨vf, vw, h⟩ := h
  exact ⟨vf, vw, h.ok, h.hB, h.blk.fr m (refS_not (by unfold refT; decide)), h.fl.fr m (fun _ _ _ => refS_not (by unfold refT; decide)), h.wt.fr m (fun _ _ _ => refS_not (by unfold refT; decide)), h.pool.ref m⟩
/-- .. and what the program's do, the document's. -/
theorem DFlowAt.prog {B B' mb fp pb : Nat} {s : FS} {w w' : World} (h : DFlowAt B fp pb s w) (m : Fr B' (flowS mb) w w') : DFlowAt B fp pb s w' := by
  obtain ⟨vf, vw, vl, L, h⟩ := h
  exact ⟨vf, vw, vl, L, h.ok, h.hB, h.blk.fr m (flowS_not (by unfold flowT; decide)), h.fl.fr m (fun _ _ _ => flowS_not (by unfold flowT; decide)), h.wt.fr m (fun _ _ _ => flowS_not (by unfold flowT; decide)),
    ⟨h.pool.hP, h.pool.blk.fr m (flowS_not (by unfold flowT; decide)), h.pool.ls.fr m (fun _ _ _ => flowS_not (by unfold flowT; decide)), h.pool.pm⟩⟩
end Go.Proofs.Ytnclobnnnihpfaa
