/- A flow in memory: what a step of goOn makes of it. -/
import Derived.Test.YtnclobnnnihpfaaOut
namespace Go.Proofs.Ytnclobnnnihpfaa
set_option linter.unusedVariables false
open Go.RowKit Go.Maps

theorem info_fls : (Try.prog.info? 40).map (fun i => i.size) = some 1 := by kernel_rfl
theorem info_oms : (Try.prog.info? 67).map (fun i => i.size) = some 1 := by kernel_rfl
theorem om_size : (Try.prog.info? 43).map (·.size) = some 5 := by kernel_rfl
theorem map_some {α β : Type} {o : Option α} {f : α → β} {b : β} (h : o.map f = some b) : ∃ i, o = some i ∧ f i = b := by
  cases o with
  | none => cases h
  | some i => exact ⟨i, rfl, by simpa using h⟩
theorem ofA_one (x : OF) : ∀ u ∈ (ofA x).toList, u.oneCell' = true := by
  intro u hu
  simp only [ofA, List.mem_cons, List.not_mem_nil, or_false] at hu
  rcases hu with rfl | rfl | rfl | rfl | rfl | rfl | rfl <;> rfl
theorem omA_one (m : OM) : ∀ u ∈ (omA m).toList, u.oneCell' = true := by
  intro u hu
  simp only [omA, List.mem_cons, List.not_mem_nil, or_false] at hu
  rcases hu with rfl | rfl | rfl | rfl | rfl <;> rfl
theorem flL_snoc (l : List OF) (x : OF) : flL (l ++ [x]) = flL l ++ (ofA x).toList := by simp [flL, ofC, ofA]
theorem wtL_snoc (l : List OM) (x : OM) : wtL (l ++ [x]) = wtL l ++ (omA x).toList := by simp [wtL, omC, omA]
/-- A flight more. -/
theorem flow_done {B fp pb mb : Nat} {s : FS} {m : OM} {r : List OM} {id : Int} {vf vw' v9 : Value} {w2 w9 : World} (hok : FOk (pop1 s m r)) (hB : B ≤ fp) (hid : nextId (oids s.fl) s.taken = id)
    (hb : Blk w2 fp #[.pointer (some ⟨pb, 0, none⟩), .int .i64 s.most, .bool s.on, vf, vw'] 90) (hs : Sl B w2 45 7 vf s.fl.length (flL s.fl)) (hw : Sl B w2 43 5 vw' r.length (wtL r))
    (hp : PoolAt B pb mb id (oids s.fl ++ [id]) w2) (hg : w2.drew.grownBy w9 vf.ownBlock) (h9 : Sl B w9 45 7 v9 (s.fl.length + 1) (flL s.fl ++ (ofA ⟨id, m, false⟩).toList)) :
    FlowV B fp pb mb (pop1 s m r) v9 vw' (w9.setCell ⟨fp, 3, none⟩ v9) ∧ Fr B (flowS mb) w2 (w9.setCell ⟨fp, 3, none⟩ v9) := by
  subst hid
  have hb9 := Blk.grown (w := w2.drew) hb hg (hs.ne hb (by decide))
  have hw9 : Sl B w9 43 5 vw' r.length (wtL r) := Sl.grown (w := w2.drew) hw hg (fun k hk => hw.ne2 hs (by decide) k hk)
  have hp9 : Blk w9 pb _ _ := Blk.grown (w := w2.drew) hp.2.2.1 hg (hs.ne hp.2.2.1 (by decide))
  have hi9 : Ids mb _ w9 := hp.2.2.2.same (hg.block mb hp.2.2.2.lt (by
    intro c
    obtain ⟨o, ho⟩ : ∃ o, w2.heap[mb]? = some o := ⟨_, Array.getElem?_eq_getElem hp.2.2.2.lt⟩
    obtain ⟨cur, e1⟩ := hs.obj mb o c.symm ho
    obtain ⟨es, cl, e2⟩ := hp.2.2.2.obj
    rw [e2] at ho
    cases ho
    cases e1))
  have hf9 : Fr B (flowS mb) w2 w9 := (Fr.refl B _ w2).drew.grown hg (Nat.le_trans hB (Nat.le_of_lt hb.lt)) (fun k hk => (hs.lt k hk).1) (fun k o hk ho => by
    obtain ⟨cur, e⟩ := hs.obj k o hk ho
    subst e
    exact .inl (flowS_cells (.inr (.inr (.inl rfl)))))
  refine ⟨⟨hok, hB, hb9.set 3 v9, ?_, hw9.set 3 v9 (hw9.ne hb9 (by decide)), hp.1, hp.2.1, ?_, ?_⟩, hf9.set hb9 hB (fun _ _ => flowS_cells (.inl rfl)) 3 v9⟩
  · have := h9.set (R := fp) 3 v9 (h9.ne hb9 (by decide))
    rw [← flL_snoc] at this
    show Sl B _ _ 7 v9 (s.fl ++ [_]).length (flL (s.fl ++ [_]))
    rw [List.length_append]
    exact this
  · exact hp9.other (blk_ne hp9 hb9 (by decide)) 3 v9
  · have := hi9.same (w' := w9.setCell ⟨fp, 3, none⟩ v9) (Below.heap_setCell _ _ _ _ (hi9.ne hb9))
    show Ids mb (oids (s.fl ++ [_])) _
    unfold oids at this ⊢
    rw [List.map_append]
    exact this
/-- What goes out grows: the flow stays. -/
theorem FlowV.grown {B C fp pb mb n : Nat} {s : FS} {vf vw v : Value} {xs : List Value} {w w' : World} (h : FlowV B fp pb mb s vf vw w) (hs : Sl C w 37 26 v n xs) (hg : w.grownBy w' v.ownBlock) : FlowV B fp pb mb s vf vw w' :=
  ⟨h.ok, h.hB, h.blk.grown hg (hs.ne h.blk (by decide)), h.fl.grown hg (fun k hk => h.fl.ne2 hs (by decide) k hk), h.wt.grown hg (fun k hk => h.wt.ne2 hs (by decide) k hk), h.pool.1, h.pool.2.1, h.pool.2.2.1.grown hg (hs.ne h.pool.2.2.1 (by decide)),
    h.pool.2.2.2.same (hg.block mb h.pool.2.2.2.lt (by
      intro c
      obtain ⟨o, ho⟩ : ∃ o, w.heap[mb]? = some o := ⟨_, Array.getElem?_eq_getElem h.pool.2.2.2.lt⟩
      obtain ⟨cur, e1⟩ := hs.obj mb o c.symm ho
      obtain ⟨es, cl, e2⟩ := h.pool.2.2.2.obj
      rw [e2] at ho
      cases ho
      cases e1))⟩
theorem OutAt.sl {C : Nat} {w : World} {v : Value} {L : List OP} (h : OutAt C w v L) : ∃ xs, Sl C w 37 26 v L.length xs := by
  obtain ⟨pvs, _, h, _⟩ := h
  exact ⟨_, h⟩
theorem OpAt.below {C : Nat} {w w' : World} {p : OP} {pv : Value} (h : OpAt C w p pv) (m : Below w.heap.size w w') : OpAt C w' p pv :=
  h.fr (Fr.of_below (S := fun _ _ => False) m (Nat.le_refl _)) (fun _ _ c => c)
theorem pk_fill (cs : Array Value) (z : Array Value) (h : cs.size = 26) : ∀ l : List Value, cs = l.toArray → l.length = 26 → Instr.fill (fun k => some (k * 26, 26)) ((Array.range (1 * 26)).map (z[· % z.size]!)) [(0, .agg cs)] = some cs := by
  intro l e hl
  match l, hl with
  | [a0, a1, a2, a3, a4, a5, a6, a7, a8, a9, a10, a11, a12, a13, a14, a15, a16, a17, a18, a19, a20, a21, a22, a23, a24, a25], _ =>
    subst e
    have hr : Array.range (1 * 26) = #[0, 1, 2, 3, 4, 5, 6, 7, 8, 9, 10, 11, 12, 13, 14, 15, 16, 17, 18, 19, 20, 21, 22, 23, 24, 25] := by rfl
    rw [hr]
    simp [Instr.fill, Value.cells]
theorem fill_pk (k : Int) (dup ret : Bool) (q id : Int) (topic payload : ByteArray) (pv : Value) (z : Value) :
    Instr.fill (fun i => some (i * 26, 26)) ((Array.range (1 * 26)).map (z.cells[· % z.cells.size]!)) [(0, .agg (pkA k dup ret q id topic payload pv))] = some (pkA k dup ret q id topic payload pv) :=
  pk_fill _ _ rfl (pkA k dup ret q id topic payload pv).toList rfl rfl
/-- '[]Packet{p}', for the walk. -/
theorem wpList_pkS {ops : Array Oper} {rest : List Oper} {o : Oper} {a : Act} {w : World} {Q : Exit → Act → World → Prop} (x : Operand) (cs : Array Value) (hc : cs.size = 26)
    (hgd : o.guard = none) (ho : o.op = .buildSlice 27 1 #[(0, x)]) (hx : a.eval x = .agg cs) (Z : World) (hZ : w.alloc (.cells cs 37) = Z)
    (h : wpList Try.prog ops Q rest (a.put o.dst (.slice (some ⟨w.heap.size, 0, none⟩) 1 1)) Z) : wpList Try.prog ops Q (o :: rest) a w := by
  obtain ⟨ip, hip, hipz, hips, hipb⟩ := info_parts info_pk
  refine wpList_buildSlice hgd 27 37 1 _ ho cs ip _ Try.underlying27 hip hipz (by rw [hips]; decide) (by rw [hips]; decide) ?_ (by rw [hZ]; exact h)
  rw [hips]
  simp only [List.map_toArray, List.map_cons, List.map_nil, hx]
  exact pk_fill cs _ hc cs.toList (by simp) (by simpa using hc)
end Go.Proofs.Ytnclobnnnihpfaa
