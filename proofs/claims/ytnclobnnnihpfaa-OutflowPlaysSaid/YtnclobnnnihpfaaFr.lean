/- Worlds in which told blocks alone have turned (by number and content); a slice in memory of its own, from whatever cell on. Over whatever program. -/
import Derived.Test.YtnclobnnnihpfaaMod
import Derived.ArgAppend
import Derived.Maps.OwnSet
namespace Go.Proofs.Ytnclobnnnihpfaa
set_option linter.unusedVariables false
open Go.RowKit

/-- Below B nothing has turned; of what was there, only what S tells has. -/
structure Fr (B : Nat) (S : Nat → Obj → Prop) (w w' : World) : Prop where
  below : Below B w w'
  keep : ∀ k obj, w.heap[k]? = some obj → ¬ S k obj → w'.heap[k]? = some obj
theorem Fr.refl (B : Nat) (S : Nat → Obj → Prop) (w : World) : Fr B S w w := ⟨Below.refl _ _, fun _ _ h _ => h⟩
theorem Fr.trans {B : Nat} {S : Nat → Obj → Prop} {a b c : World} (h : Fr B S a b) (k : Fr B S b c) : Fr B S a c :=
  ⟨h.below.trans k.below, fun i o hi hs => k.keep i o (h.keep i o hi hs) hs⟩
theorem Fr.weaken {B B' : Nat} {S S' : Nat → Obj → Prop} {a b : World} (h : Fr B S a b) (hB : B' ≤ B) (hs : ∀ k o, a.heap[k]? = some o → S k o → S' k o) : Fr B' S' a b :=
  ⟨h.below.mono hB, fun i o hi hn => h.keep i o hi (fun c => hn (hs i o hi c))⟩
theorem heap_lt {w : World} {k : Nat} {o : Obj} (h : w.heap[k]? = some o) : k < w.heap.size := (Array.getElem?_eq_some_iff.1 h).1
/-- What turned later in blocks that are new counts for nothing. -/
theorem Fr.then {B : Nat} {S S' : Nat → Obj → Prop} {a b c : World} (h : Fr B S a b) (k : Fr B S' b c) (hs : ∀ i o, i < a.heap.size → S' i o → S i o) : Fr B S a c :=
  ⟨h.below.trans k.below, fun i o hi hn => k.keep i o (h.keep i o hi hn) (fun c => hn (hs i o (heap_lt hi) c))⟩
theorem Fr.of_below {B : Nat} {S : Nat → Obj → Prop} {a b : World} (h : Below a.heap.size a b) (hB : B ≤ a.heap.size) : Fr B S a b :=
  ⟨h.mono hB, fun k o hk _ => (h.block k (heap_lt hk)).trans hk⟩
theorem Fr.drew {B : Nat} {S : Nat → Obj → Prop} {a b : World} (h : Fr B S a b) : Fr B S a b.drew := ⟨h.below.drew, h.keep⟩
theorem Fr.alloc {B : Nat} {S : Nat → Obj → Prop} {a b : World} (h : Fr B S a b) (hB : B ≤ b.heap.size) (o : Obj) : Fr B S a (b.alloc o) :=
  h.trans (Fr.of_below ((Below.refl _ _).alloc (Nat.le_refl _) o) hB)
theorem Fr.set {B : Nat} {S : Nat → Obj → Prop} {a b : World} {R : Nat} {cs : Array Value} {t : TypeId} (h : Fr B S a b) (hb : Blk b R cs t) (hB : B ≤ R) (hS : ∀ cs' fz, S R (.cells cs' t fz)) (i : Nat) (v : Value) : Fr B S a (b.setCell ⟨R, i, none⟩ v) :=
  h.trans ⟨(Below.refl _ _).setCell hB _, fun k o hk hn => by
    by_cases e : k = R
    · subst e
      unfold Blk at hb
      rw [hb] at hk
      cases hk
      exact absurd (hS _ _) hn
    · exact (Below.heap_setCell _ _ _ _ e).trans hk⟩
theorem Fr.grown {B : Nat} {S : Nat → Obj → Prop} {a b c : World} {row : Option Nat} (h : Fr B S a b) (hg : b.grownBy c row) (hB : B ≤ b.heap.size) (hr : ∀ k, row = some k → B ≤ k) (hS : ∀ k o, row = some k → b.heap[k]? = some o → S k o ∨ a.heap.size ≤ k) : Fr B S a c :=
  ⟨h.below.grown hg hB hr, fun k o hk hn => by
    have h1 := h.keep k o hk hn
    rw [hg.block k (heap_lt h1) ?_]
    · exact h1
    · intro e
      rcases hS k o e.symm h1 with c | c
      · exact hn c
      · have := heap_lt hk; omega⟩
theorem Blk.fr {B : Nat} {S : Nat → Obj → Prop} {w w' : World} {R : Nat} {cs : Array Value} {t : TypeId} (h : Blk w R cs t) (m : Fr B S w w') (hs : ¬ S R (.cells cs t (0, 0))) : Blk w' R cs t := m.keep R _ h hs
theorem Blk.lo {B : Nat} {S : Nat → Obj → Prop} {w w' : World} {R : Nat} {cs : Array Value} {t : TypeId} (h : Blk w R cs t) (m : Fr B S w w') (hs : R < B) : Blk w' R cs t := (m.below.block R hs).trans h

/-- A slice in memory of its own, from whatever cell on: n elements of 'size' cells. -/
def Sl (B : Nat) (w : World) (e : TypeId) (size : Nat) (v : Value) (n : Nat) (xs : List Value) : Prop :=
  xs.length = n * size ∧ ((v = .slice none 0 0 ∧ n = 0) ∨
    ∃ g o cap cur, v = .slice (some ⟨g, o, none⟩) n cap ∧ B ≤ g ∧ w.heap[g]? = some (.cells cur e (0, 0)) ∧ n ≤ cap ∧ cap ≤ maxLen ∧ o + cap * size ≤ cur.size ∧ (cur.toList.drop o).take (n * size) = xs)
section
variable {B : Nat} {w : World} {e : TypeId} {size n : Nat} {v : Value} {xs : List Value}
theorem Sl.nil (B : Nat) (w : World) (e : TypeId) (size : Nat) : Sl B w e size (.slice none 0 0) 0 [] := ⟨by simp, .inl ⟨rfl, rfl⟩⟩
theorem Sl.of_own (h : w.ownsRow B e size v n xs) : Sl B w e size v n xs := by
  refine ⟨h.1, ?_⟩
  rcases h.2 with c | ⟨g, cap, cur, h1, h2, h3, h4, h5, h6, h7⟩
  · exact .inl c
  · exact .inr ⟨g, 0, cap, cur, h1, h2, h3, h4, h5, by omega, by simpa using h7⟩
theorem Sl.form (h : Sl B w e size v n xs) : ∃ ao cap, v = .slice ao n cap ∧ n ≤ cap ∧ cap ≤ maxLen ∧ (ao = none → n = 0 ∧ cap = 0) := by
  rcases h.2 with ⟨rfl, rfl⟩ | ⟨g, o, cap, cur, rfl, _, _, h4, h5, _⟩
  · exact ⟨_, _, rfl, Nat.le_refl _, by unfold maxLen; omega, fun _ => ⟨rfl, rfl⟩⟩
  · exact ⟨_, _, rfl, h4, h5, fun c => by cases c⟩
theorem Sl.lt (h : Sl B w e size v n xs) : ∀ k, v.ownBlock = some k → B ≤ k ∧ k < w.heap.size := by
  intro k hk
  rcases h.2 with ⟨rfl, _⟩ | ⟨g, o, cap, cur, rfl, hb, hg, _⟩
  · simp [Value.ownBlock] at hk
  · simp [Value.ownBlock] at hk
    subst hk
    exact ⟨hb, heap_lt hg⟩
theorem Sl.obj (h : Sl B w e size v n xs) : ∀ k o, v.ownBlock = some k → w.heap[k]? = some o → ∃ cur, o = .cells cur e (0, 0) := by
  intro k o' hk ho
  rcases h.2 with ⟨rfl, _⟩ | ⟨g, o, cap, cur, rfl, hb, hg, _⟩
  · simp [Value.ownBlock] at hk
  · simp [Value.ownBlock] at hk
    subst hk
    rw [hg] at ho
    cases ho
    exact ⟨_, rfl⟩
/-- It stays what it is while its block does. -/
theorem Sl.same {w' : World} (h : Sl B w e size v n xs) (hk : ∀ k, v.ownBlock = some k → w'.heap[k]? = w.heap[k]?) : Sl B w' e size v n xs := by
  refine ⟨h.1, ?_⟩
  rcases h.2 with c | ⟨g, o, cap, cur, rfl, hb, hg, r⟩
  · exact .inl c
  · exact .inr ⟨g, o, cap, cur, rfl, hb, (hk g rfl).trans hg, r⟩
theorem Sl.fr {w' : World} {S : Nat → Obj → Prop} {B' : Nat} (h : Sl B w e size v n xs) (m : Fr B' S w w') (hs : ∀ k cs, v.ownBlock = some k → ¬ S k (.cells cs e (0, 0))) : Sl B w' e size v n xs := by
  refine ⟨h.1, ?_⟩
  rcases h.2 with c | ⟨g, o, cap, cur, rfl, hb, hg, r⟩
  · exact .inl c
  · exact .inr ⟨g, o, cap, cur, rfl, hb, m.keep g _ hg (hs g _ rfl), r⟩
theorem Sl.below {w' : World} (h : Sl B w e size v n xs) (hb : Below w.heap.size w w') : Sl B w' e size v n xs := h.same fun k hk => hb.block k (h.lt k hk).2
theorem Sl.alloc (h : Sl B w e size v n xs) (o : Obj) : Sl B (w.alloc o) e size v n xs := h.below ((Below.refl _ _).alloc (Nat.le_refl _) o)
theorem Sl.drew (h : Sl B w e size v n xs) : Sl B w.drew e size v n xs := h
theorem Sl.set (h : Sl B w e size v n xs) {R : Nat} (i : Nat) (u : Value) (hne : v.ownBlock ≠ some R) : Sl B (w.setCell ⟨R, i, none⟩ u) e size v n xs :=
  h.same fun k hk => Below.heap_setCell _ _ _ _ (fun c => hne (hk.trans (by rw [c])))
theorem Sl.grown {w' : World} {row : Option Nat} (h : Sl B w e size v n xs) (hg : w.grownBy w' row) (hne : ∀ k, v.ownBlock = some k → row ≠ some k) : Sl B w' e size v n xs :=
  h.same fun k hk => hg.block k (h.lt k hk).2 (fun c => hne k hk c.symm)
/-- Its block is none of another type. -/
theorem Sl.ne (h : Sl B w e size v n xs) {b : Nat} {cs : Array Value} {T : TypeId} (hb : Blk w b cs T) (hT : T ≠ e) : v.ownBlock ≠ some b := by
  intro c
  unfold Blk at hb
  obtain ⟨cur, hc⟩ := h.obj b _ c hb
  injection hc with _ h2 _
  exact hT h2
theorem Sl.ne2 (h : Sl B w e size v n xs) {B' n' size' : Nat} {e' : TypeId} {v' : Value} {xs' : List Value} (h' : Sl B' w e' size' v' n' xs') (hT : e ≠ e') : ∀ k, v.ownBlock = some k → v'.ownBlock ≠ some k := by
  intro k hk hk'
  have hlt := (h.lt k hk).2
  obtain ⟨o, ho⟩ : ∃ o, w.heap[k]? = some o := ⟨_, Array.getElem?_eq_getElem hlt⟩
  obtain ⟨c1, e1⟩ := h.obj k o hk ho
  obtain ⟨c2, e2⟩ := h'.obj k o hk' ho
  rw [e1] at e2
  injection e2 with _ h2 _
  exact hT h2
theorem addr_add0 (g o j : Nat) : (⟨g, o, none⟩ : Addr).add j = ⟨g, o + j, none⟩ := Addr.add_lit _ _ _
/-- Its cells. -/
theorem Sl.cells {g o cap : Nat} (h : Sl B w e size (.slice (some ⟨g, o, none⟩) n cap) n xs) : ∀ j u, xs[j]? = some u → w.cell? ⟨g, o + j, none⟩ = some u := by
  intro j u hu
  rcases h.2 with ⟨c, _⟩ | ⟨g', o', cap', cur, hv, hb, hg, h4, h5, h6, h7⟩
  · cases c
  · cases hv
    rw [cell_of_row w g (o + j) cur e (0, 0) hg]
    rw [← h7, List.getElem?_take] at hu
    split at hu
    · simpa using hu
    · cases hu
theorem Sl.at (h : Sl B w e size v n xs) (hn : 0 < n) : ∃ g o cap, v = .slice (some ⟨g, o, none⟩) n cap ∧ B ≤ g ∧ g < w.heap.size ∧ n ≤ cap ∧ cap ≤ maxLen ∧ ∀ j u, xs[j]? = some u → w.cell? ⟨g, o + j, none⟩ = some u := by
  rcases h.2 with ⟨_, c⟩ | ⟨g, o, cap, cur, rfl, hb, hg, h4, h5, h6, h7⟩
  · omega
  · exact ⟨g, o, cap, rfl, hb, heap_lt hg, h4, h5, h.cells⟩
theorem drop_take_drop (l : List Value) (o k m : Nat) : ((l.drop o).take (k + m)).drop k = (l.drop (o + k)).take m := by
  rw [List.drop_take, List.drop_drop, Nat.add_sub_cancel_left]
/-- 'xs[1:]': the value. -/
theorem Sl.tail {a : Option Addr} {cap m : Nat} (h : Sl B w e size (.slice a (m + 1) cap) (m + 1) xs) : ∃ g o, a = some ⟨g, o, none⟩ ∧ 1 ≤ cap ∧ cap ≤ maxLen ∧
    Sl B w e size (.slice (some ⟨g, if cap = 1 then o else o + size, none⟩) m (cap - 1)) m (xs.drop size) := by
  rcases h.2 with ⟨_, c⟩ | ⟨g, o, cap', cur, hv, hb, hg, h4, h5, h6, h7⟩
  · omega
  · cases hv
    have hl : (xs.drop size).length = m * size := by rw [List.length_drop, h.1, Nat.succ_mul]; omega
    refine ⟨g, o, rfl, by omega, h5, hl, ?_⟩
    by_cases hc : cap = 1
    · obtain rfl : m = 0 := by omega
      have hx : xs.drop size = [] := List.eq_nil_of_length_eq_zero (by simpa using hl)
      rw [if_pos hc, hx]
      exact .inr ⟨g, o, cap - 1, cur, rfl, hb, hg, by omega, by omega, by subst hc; simp at h6 ⊢; omega, by simp⟩
    · rw [if_neg hc]
      refine .inr ⟨g, o + size, cap - 1, cur, rfl, hb, hg, by omega, by omega, ?_, ?_⟩
      · have : cap * size = (cap - 1) * size + size := by
          rw [← Nat.succ_mul]; congr 1; omega
        omega
      · rw [← h7, ← drop_take_drop]
        congr 2
        rw [Nat.succ_mul]; omega
variable {P : Program}
theorem run_append_sl (t ty : TypeId) (i : TypeInfo) (z : Value) (bytes : Nat) (ht : P.underlying t = some (.slice e)) (hi : P.info? e = some i) (hz : i.zero = some z)
    (hsize : i.size = size) (hby : i.bytes = bytes) (hzs : z.cells.size = size) (hsz : 0 < size) (h : Sl B w e size v n xs)
    (a : Addr) (m c : Nat) (news : List Value) (hl : news.length = m * size) (hnews : ∀ j u, news[j]? = some u → w.cell? (a.add j) = some u) (h1 : ∀ u ∈ news, u.oneCell' = true)
    (h63 : n + m ≤ maxLen) (hbytes : (n + m) * bytes ≤ 140737488355328) (hbase : B ≤ w.heap.size) :
    ∃ v' w', (Builtin.append_ #[t, t] ty #[v, .slice (some a) m c]).run P w = .ok v' w' ∧ Sl B w' e size v' (n + m) (xs ++ news) ∧ w.grownBy w' v.ownBlock ∧ (v'.ownBlock = v.ownBlock ∨ v'.ownBlock = some w.heap.size) := by
  rcases h.2 with ⟨rfl, rfl⟩ | ⟨g, o, cap, cur, rfl, hb, hg, h4, h5, h6, h7⟩
  · obtain rfl : xs = [] := List.eq_nil_of_length_eq_zero (by simpa using h.1)
    obtain ⟨v', w', hr, h2, h3, _, h5⟩ := run_append_own_at (P := P) w B t ty e i z size bytes ht hi hz hsize hby hzs hsz (.slice none 0 0) 0 [] (World.ownsRow_nil w _ e size) a m c news hl hnews h1 h63 hbytes hbase
    exact ⟨v', w', hr, Sl.of_own h2, h3, h5⟩
  · by_cases hroom : n + m ≤ cap
    · have hfc := run_firstCells_some (P := P) w i.size m a m c news (by rw [hsize]; exact hl) hnews
      have hms : (n + m) * size ≤ cap * size := Nat.mul_le_mul_right _ hroom
      have hnm : (n + m) * size = n * size + m * size := Nat.add_mul _ _ _
      have hst := run_storeCells_at P g (o + n * size) e news 0 cur w hg (by rw [hl]; omega) h1
      simp only [Nat.add_zero] at hst
      have hr : (Builtin.append_ #[t, t] ty #[.slice (some ⟨g, o, none⟩) n cap, .slice (some a) m c]).run P w =
          .ok (.slice (some ⟨g, o, none⟩) (n + m) cap) (w.setRow g (cur.toList.take (o + n * size) ++ news ++ cur.toList.drop (o + n * size + news.length)).toArray) := by
        subst hsize
        simp [Builtin.append_, run_underlying ht, sizeOf, typeInfo, hi, Builtin.lenOf, hroom, hfc, Addr.add_lit, hst]
      have hcl : cur.toList.length = cur.size := Array.length_toList
      refine ⟨_, _, hr, ⟨by rw [List.length_append, h.1, hl, hnm], .inr ⟨g, o, cap, _, rfl, hb, setRow_heap w g cur _ e _ hg, hroom, h5, ?_, ?_⟩⟩, ⟨rfl, rfl, rfl, by simp, fun k _ hk => setRow_other w g k _ (fun e => hk (by simp [Value.ownBlock, e]))⟩, .inl rfl⟩
      · simp only [List.size_toArray, List.length_append, List.length_take, List.length_drop, Array.length_toList]
        omega
      · have e1 : cur.toList.take (o + n * size) = cur.toList.take o ++ xs := by
          rw [List.take_add, h7]
        have ho : (cur.toList.take o).length = o := by rw [List.length_take]; omega
        simp only [e1, List.append_assoc]
        rw [List.drop_left' ho, ← List.append_assoc, List.take_left' (by rw [List.length_append, h.1, hl, hnm])]
    · have holds : ∀ j u, xs[j]? = some u → w.cell? ((⟨g, o, none⟩ : Addr).add j) = some u := fun j u hu => by rw [addr_add0]; exact h.cells j u hu
      obtain ⟨v', w', hr, r1, r2⟩ := run_append_arg_grows (P := P) w t ty e i z size bytes ht hi hz hsize hby hzs hsz ⟨g, o, none⟩ n cap xs h.1 holds a m c news hl hnews (by omega) h63 hbytes
      refine ⟨v', w', hr, ?_, ⟨r2.os, r2.tape, r2.output, r2.size, fun k hk _ => r2.block k hk (by simp)⟩, .inr ?_⟩
      · have := Sl.of_own r1
        refine ⟨this.1, ?_⟩
        rcases this.2 with c | ⟨g', o', cap', cur', hv, hB, r⟩
        · exact .inl c
        · exact .inr ⟨g', o', cap', cur', hv, by omega, r⟩
      · have hr2 := run_append_grow (P := P) w t ty e i z ht hi hz ⟨g, o, none⟩ n cap xs (by rw [hsize]; exact h.1) holds a m c news (by rw [hsize]; exact hl) hnews (by omega) (by unfold maxLen at h63; omega) (by subst hby; exact growslice_fits (by omega) hbytes)
        rw [hr2] at hr
        injection hr with hr _
        subst hr
        rfl
/-- 'xs = append(xs, u)' for the walk: one element whose cells lie in a block of their own. -/
theorem wpList_append_sl {ops : Array Oper} {rest : List Oper} {o : Oper} {a : Act} {Q : Exit → Act → World → Prop} (s x : Operand) (t : TypeId) (i : TypeInfo) (z : Value) (bytes C : Nat) (cs : Array Value)
    (hgd : o.guard = none) (ho : o.op = .call { callee := .builtin .append, args := #[s, x], argTypes := #[t, t] })
    (ht : P.underlying t = some (.slice e)) (hi : P.info? e = some i) (hz : i.zero = some z) (hsize : i.size = size) (hby : i.bytes = bytes) (hzs : z.cells.size = size) (hsz : 0 < size) (hcl : cs.size = size) (h1 : ∀ u ∈ cs.toList, u.oneCell' = true)
    (hs : a.eval s = v) (hx : a.eval x = .slice (some ⟨C, 0, none⟩) 1 1)
    (hown : Sl B w e size v n xs) (hb : Blk w C cs e) (hB : B ≤ w.heap.size) (h63 : n + 1 ≤ maxLen) (hbytes : (n + 1) * bytes ≤ 140737488355328)
    (h : ∀ v' w', Sl B w' e size v' (n + 1) (xs ++ cs.toList) → w.grownBy w' v.ownBlock → (v'.ownBlock = v.ownBlock ∨ v'.ownBlock = some w.heap.size) → wpList P ops Q rest (a.put o.dst v') w') :
    wpList P ops Q (o :: rest) a w := by
  refine wpList_plain hgd fun K hK' => ?_
  obtain ⟨v', w', hrun, r1, r2, r3⟩ := run_append_sl (P := P) t o.type i z bytes ht hi hz hsize hby hzs hsz hown ⟨C, 0, none⟩ 1 1 cs.toList (by simpa using hcl) (World.news_of_block hb) h1 h63 hbytes hB
  unfold Oper.wp
  simp [execOp, ho, resolve, invoke, builtin, hs, hx, hrun, Result.andThen]
  exact hK' _ _ (h v' w' r1 r2 r3)
end
end Go.Proofs.Ytnclobnnnihpfaa
