/- Parts of the proof, joined: Fr, Gw1, PkM, Gw2, Gw3, Gw4. -/
import Derived.Test.YtedapgeabpadaaaDoorJ6P3
import Derived.ArgAppend
import Derived.Maps.OwnSet
import Derived.Test.YtedapgeabpadaaaDoorJ6P4
import Derived.Test.YtedapgeabpadaaaDoorJ6P2
import Derived.Laws.Rows
import Derived.Great.BuildSlice
namespace Go.Proofs.YtedapgeabpadaaaDoor
set_option linter.unusedVariables false
open Go.RowKit

/-- Below B nothing has turned; of what was there, only what S tells has. -/
structure Fr (B : Nat) (S : Nat → Obj → Prop) (w w' : World) : Prop where
  below : Below B w w'
  keep : ∀ k obj, w.heap[k]? = some obj → ¬ S k obj → w'.heap[k]? = some obj
theorem Fr.refl (B : Nat) (S : Nat → Obj → Prop) (w : World) : Fr B S w w := ⟨Below.refl _ _, fun _ _ h _ => h⟩
theorem Fr.trans {B : Nat} {S : Nat → Obj → Prop} {a b c : World} (h : Fr B S a b) (k : Fr B S b c) : Fr B S a c :=
  ⟨h.below.trans k.below, fun i o hi hs => k.keep i o (h.keep i o hi hs) hs⟩
theorem Fr.weaken {B B' : Nat} {S S' : Nat → Obj → Prop} {a b : World} (h : Fr B S a b) (hB : B' ≤ B) (hs : ∀ k o, a.heap[k]? = some o → S k o → S' k o) : Fr B' S' a b :=
  ⟨h.below.mono hB, fun i o hi hn => h.keep i o hi (fun c => hn (hs i o hi c))⟩
theorem heap_lt {w : World} {k : Nat} {o : Obj} (h : w.heap[k]? = some o) : k < w.heap.size := (Array.getElem?_eq_some_iff.1 h).1
/-- What turned later in blocks that are new counts for nothing. -/
theorem Fr.then {B : Nat} {S S' : Nat → Obj → Prop} {a b c : World} (h : Fr B S a b) (k : Fr B S' b c) (hs : ∀ i o, i < a.heap.size → S' i o → S i o) : Fr B S a c :=
  ⟨h.below.trans k.below, fun i o hi hn => k.keep i o (h.keep i o hi hn) (fun c => hn (hs i o (heap_lt hi) c))⟩
theorem Fr.of_below {B : Nat} {S : Nat → Obj → Prop} {a b : World} (h : Below a.heap.size a b) (hB : B ≤ a.heap.size) : Fr B S a b :=
  ⟨h.mono hB, fun k o hk _ => (h.block k (heap_lt hk)).trans hk⟩
theorem Fr.drew {B : Nat} {S : Nat → Obj → Prop} {a b : World} (h : Fr B S a b) : Fr B S a b.drew := ⟨h.below.drew, h.keep⟩
theorem Fr.alloc {B : Nat} {S : Nat → Obj → Prop} {a b : World} (h : Fr B S a b) (hB : B ≤ b.heap.size) (o : Obj) : Fr B S a (b.alloc o) :=
  h.trans (Fr.of_below ((Below.refl _ _).alloc (Nat.le_refl _) o) hB)
theorem Fr.set {B : Nat} {S : Nat → Obj → Prop} {a b : World} {R : Nat} {cs : Array Value} {t : TypeId} (h : Fr B S a b) (hb : Blk b R cs t) (hB : B ≤ R) (hS : ∀ cs' fz, S R (.cells cs' t fz)) (i : Nat) (v : Value) : Fr B S a (b.setCell ⟨R, i, none⟩ v) :=
  h.trans ⟨(Below.refl _ _).setCell hB _, fun k o hk hn => by
    by_cases e : k = R
    · subst e
      unfold Blk at hb
      rw [hb] at hk
      cases hk
      exact absurd (hS _ _) hn
    · exact (Below.heap_setCell _ _ _ _ e).trans hk⟩
theorem Fr.grown {B : Nat} {S : Nat → Obj → Prop} {a b c : World} {row : Option Nat} (h : Fr B S a b) (hg : b.grownBy c row) (hB : B ≤ b.heap.size) (hr : ∀ k, row = some k → B ≤ k) (hS : ∀ k o, row = some k → b.heap[k]? = some o → S k o ∨ a.heap.size ≤ k) : Fr B S a c :=
  ⟨h.below.grown hg hB hr, fun k o hk hn => by
    have h1 := h.keep k o hk hn
    rw [hg.block k (heap_lt h1) ?_]
    · exact h1
    · intro e
      rcases hS k o e.symm h1 with c | c
      · exact hn c
      · have := heap_lt hk; omega⟩
theorem Blk.fr {B : Nat} {S : Nat → Obj → Prop} {w w' : World} {R : Nat} {cs : Array Value} {t : TypeId} (h : Blk w R cs t) (m : Fr B S w w') (hs : ¬ S R (.cells cs t (0, 0))) : Blk w' R cs t := m.keep R _ h hs
theorem Blk.lo {B : Nat} {S : Nat → Obj → Prop} {w w' : World} {R : Nat} {cs : Array Value} {t : TypeId} (h : Blk w R cs t) (m : Fr B S w w') (hs : R < B) : Blk w' R cs t := (m.below.block R hs).trans h

/-- A slice in memory of its own, from whatever cell on: n elements of 'size' cells. -/
def Sl (B : Nat) (w : World) (e : TypeId) (size : Nat) (v : Value) (n : Nat) (xs : List Value) : Prop :=
  xs.length = n * size ∧ ((v = .slice none 0 0 ∧ n = 0) ∨
    ∃ g o cap cur, v = .slice (some ⟨g, o, none⟩) n cap ∧ B ≤ g ∧ w.heap[g]? = some (.cells cur e (0, 0)) ∧ n ≤ cap ∧ cap ≤ maxLen ∧ o + cap * size ≤ cur.size ∧ (cur.toList.drop o).take (n * size) = xs)
section
variable {B : Nat} {w : World} {e : TypeId} {size n : Nat} {v : Value} {xs : List Value}
theorem Sl.nil (B : Nat) (w : World) (e : TypeId) (size : Nat) : Sl B w e size (.slice none 0 0) 0 [] := ⟨by simp, .inl ⟨rfl, rfl⟩⟩
theorem Sl.of_own (h : w.ownsRow B e size v n xs) : Sl B w e size v n xs := by
  refine ⟨h.1, ?_⟩
  rcases h.2 with c | ⟨g, cap, cur, h1, h2, h3, h4, h5, h6, h7⟩
  · exact .inl c
  · exact .inr ⟨g, 0, cap, cur, h1, h2, h3, h4, h5, by omega, by simpa using h7⟩
theorem Sl.form (h : Sl B w e size v n xs) : ∃ ao cap, v = .slice ao n cap ∧ n ≤ cap ∧ cap ≤ maxLen ∧ (ao = none → n = 0 ∧ cap = 0) := by
  rcases h.2 with ⟨rfl, rfl⟩ | ⟨g, o, cap, cur, rfl, _, _, h4, h5, _⟩
  · exact ⟨_, _, rfl, Nat.le_refl _, by unfold maxLen; omega, fun _ => ⟨rfl, rfl⟩⟩
  · exact ⟨_, _, rfl, h4, h5, fun c => by cases c⟩
theorem Sl.lt (h : Sl B w e size v n xs) : ∀ k, v.ownBlock = some k → B ≤ k ∧ k < w.heap.size := by
  intro k hk
  rcases h.2 with ⟨rfl, _⟩ | ⟨g, o, cap, cur, rfl, hb, hg, _⟩
  · simp [Value.ownBlock] at hk
  · simp [Value.ownBlock] at hk
    subst hk
    exact ⟨hb, heap_lt hg⟩
theorem Sl.obj (h : Sl B w e size v n xs) : ∀ k o, v.ownBlock = some k → w.heap[k]? = some o → ∃ cur, o = .cells cur e (0, 0) := by
  intro k o' hk ho
  rcases h.2 with ⟨rfl, _⟩ | ⟨g, o, cap, cur, rfl, hb, hg, _⟩
  · simp [Value.ownBlock] at hk
  · simp [Value.ownBlock] at hk
    subst hk
    rw [hg] at ho
    cases ho
    exact ⟨_, rfl⟩
/-- It stays what it is while its block does. -/
theorem Sl.same {w' : World} (h : Sl B w e size v n xs) (hk : ∀ k, v.ownBlock = some k → w'.heap[k]? = w.heap[k]?) : Sl B w' e size v n xs := by
  refine ⟨h.1, ?_⟩
  rcases h.2 with c | ⟨g, o, cap, cur, rfl, hb, hg, r⟩
  · exact .inl c
  · exact .inr ⟨g, o, cap, cur, rfl, hb, (hk g rfl).trans hg, r⟩
theorem Sl.fr {w' : World} {S : Nat → Obj → Prop} {B' : Nat} (h : Sl B w e size v n xs) (m : Fr B' S w w') (hs : ∀ k cs, v.ownBlock = some k → ¬ S k (.cells cs e (0, 0))) : Sl B w' e size v n xs := by
  refine ⟨h.1, ?_⟩
  rcases h.2 with c | ⟨g, o, cap, cur, rfl, hb, hg, r⟩
  · exact .inl c
  · exact .inr ⟨g, o, cap, cur, rfl, hb, m.keep g _ hg (hs g _ rfl), r⟩
theorem Sl.below {w' : World} (h : Sl B w e size v n xs) (hb : Below w.heap.size w w') : Sl B w' e size v n xs := h.same fun k hk => hb.block k (h.lt k hk).2
theorem Sl.alloc (h : Sl B w e size v n xs) (o : Obj) : Sl B (w.alloc o) e size v n xs := h.below ((Below.refl _ _).alloc (Nat.le_refl _) o)
theorem Sl.drew (h : Sl B w e size v n xs) : Sl B w.drew e size v n xs := h
theorem Sl.set (h : Sl B w e size v n xs) {R : Nat} (i : Nat) (u : Value) (hne : v.ownBlock ≠ some R) : Sl B (w.setCell ⟨R, i, none⟩ u) e size v n xs :=
  h.same fun k hk => Below.heap_setCell _ _ _ _ (fun c => hne (hk.trans (by rw [c])))
theorem Sl.grown {w' : World} {row : Option Nat} (h : Sl B w e size v n xs) (hg : w.grownBy w' row) (hne : ∀ k, v.ownBlock = some k → row ≠ some k) : Sl B w' e size v n xs :=
  h.same fun k hk => hg.block k (h.lt k hk).2 (fun c => hne k hk c.symm)
/-- Its block is none of another type. -/
theorem Sl.ne (h : Sl B w e size v n xs) {b : Nat} {cs : Array Value} {T : TypeId} (hb : Blk w b cs T) (hT : T ≠ e) : v.ownBlock ≠ some b := by
  intro c
  unfold Blk at hb
  obtain ⟨cur, hc⟩ := h.obj b _ c hb
  injection hc with _ h2 _
  exact hT h2
theorem Sl.ne2 (h : Sl B w e size v n xs) {B' n' size' : Nat} {e' : TypeId} {v' : Value} {xs' : List Value} (h' : Sl B' w e' size' v' n' xs') (hT : e ≠ e') : ∀ k, v.ownBlock = some k → v'.ownBlock ≠ some k := by
  intro k hk hk'
  have hlt := (h.lt k hk).2
  obtain ⟨o, ho⟩ : ∃ o, w.heap[k]? = some o := ⟨_, Array.getElem?_eq_getElem hlt⟩
  obtain ⟨c1, e1⟩ := h.obj k o hk ho
  obtain ⟨c2, e2⟩ := h'.obj k o hk' ho
  rw [e1] at e2
  injection e2 with _ h2 _
  exact hT h2
theorem addr_add0 (g o j : Nat) : (⟨g, o, none⟩ : Addr).add j = ⟨g, o + j, none⟩ := Addr.add_lit _ _ _
/-- Its cells. -/
theorem Sl.cells {g o cap : Nat} (h : Sl B w e size (.slice (some ⟨g, o, none⟩) n cap) n xs) : ∀ j u, xs[j]? = some u → w.cell? ⟨g, o + j, none⟩ = some u := by
  intro j u hu
  rcases h.2 with ⟨c, _⟩ | ⟨g', o', cap', cur, hv, hb, hg, h4, h5, h6, h7⟩
  · cases c
  · cases hv
    rw [cell_of_row w g (o + j) cur e (0, 0) hg]
    rw [← h7, List.getElem?_take] at hu
    split at hu
    · simpa using hu
    · cases hu
theorem Sl.at (h : Sl B w e size v n xs) (hn : 0 < n) : ∃ g o cap, v = .slice (some ⟨g, o, none⟩) n cap ∧ B ≤ g ∧ g < w.heap.size ∧ n ≤ cap ∧ cap ≤ maxLen ∧ ∀ j u, xs[j]? = some u → w.cell? ⟨g, o + j, none⟩ = some u := by
  rcases h.2 with ⟨_, c⟩ | ⟨g, o, cap, cur, rfl, hb, hg, h4, h5, h6, h7⟩
  · omega
  · exact ⟨g, o, cap, rfl, hb, heap_lt hg, h4, h5, h.cells⟩
theorem drop_take_drop (l : List Value) (o k m : Nat) : ((l.drop o).take (k + m)).drop k = (l.drop (o + k)).take m := by
  rw [List.drop_take, List.drop_drop, Nat.add_sub_cancel_left]
/-- 'xs[1:]': the value. -/
theorem Sl.tail {a : Option Addr} {cap m : Nat} (h : Sl B w e size (.slice a (m + 1) cap) (m + 1) xs) : ∃ g o, a = some ⟨g, o, none⟩ ∧ 1 ≤ cap ∧ cap ≤ maxLen ∧
    Sl B w e size (.slice (some ⟨g, if cap = 1 then o else o + size, none⟩) m (cap - 1)) m (xs.drop size) := by
  rcases h.2 with ⟨_, c⟩ | ⟨g, o, cap', cur, hv, hb, hg, h4, h5, h6, h7⟩
  · omega
  · cases hv
    have hl : (xs.drop size).length = m * size := by rw [List.length_drop, h.1, Nat.succ_mul]; omega
    refine ⟨g, o, rfl, by omega, h5, hl, ?_⟩
    by_cases hc : cap = 1
    · obtain rfl : m = 0 := by omega
      have hx : xs.drop size = [] := List.eq_nil_of_length_eq_zero (by simpa using hl)
      rw [if_pos hc, hx]
      exact .inr ⟨g, o, cap - 1, cur, rfl, hb, hg, by omega, by omega, by subst hc; simp at h6 ⊢; omega, by simp⟩
    · rw [if_neg hc]
      refine .inr ⟨g, o + size, cap - 1, cur, rfl, hb, hg, by omega, by omega, ?_, ?_⟩
      · have : cap * size = (cap - 1) * size + size := by
          rw [← Nat.succ_mul]; congr 1; omega
        omega
      · rw [← h7, ← drop_take_drop]
        congr 2
        rw [Nat.succ_mul]; omega
variable {P : Program}
theorem run_append_sl (t ty : TypeId) (i : TypeInfo) (z : Value) (bytes : Nat) (ht : P.underlying t = some (.slice e)) (hi : P.info? e = some i) (hz : i.zero = some z)
    (hsize : i.size = size) (hby : i.bytes = bytes) (hzs : z.cells.size = size) (hsz : 0 < size) (h : Sl B w e size v n xs)
    (a : Addr) (m c : Nat) (news : List Value) (hl : news.length = m * size) (hnews : ∀ j u, news[j]? = some u → w.cell? (a.add j) = some u) (h1 : ∀ u ∈ news, u.oneCell' = true)
    (h63 : n + m ≤ maxLen) (hbytes : (n + m) * bytes ≤ 140737488355328) (hbase : B ≤ w.heap.size) :
    ∃ v' w', (Builtin.append_ #[t, t] ty #[v, .slice (some a) m c]).run P w = .ok v' w' ∧ Sl B w' e size v' (n + m) (xs ++ news) ∧ w.grownBy w' v.ownBlock ∧ (v'.ownBlock = v.ownBlock ∨ v'.ownBlock = some w.heap.size) := by
  rcases h.2 with ⟨rfl, rfl⟩ | ⟨g, o, cap, cur, rfl, hb, hg, h4, h5, h6, h7⟩
  · obtain rfl : xs = [] := List.eq_nil_of_length_eq_zero (by simpa using h.1)
    obtain ⟨v', w', hr, h2, h3, _, h5⟩ := run_append_own_at (P := P) w B t ty e i z size bytes ht hi hz hsize hby hzs hsz (.slice none 0 0) 0 [] (World.ownsRow_nil w _ e size) a m c news hl hnews h1 h63 hbytes hbase
    exact ⟨v', w', hr, Sl.of_own h2, h3, h5⟩
  · by_cases hroom : n + m ≤ cap
    · have hfc := run_firstCells_some (P := P) w i.size m a m c news (by rw [hsize]; exact hl) hnews
      have hms : (n + m) * size ≤ cap * size := Nat.mul_le_mul_right _ hroom
      have hnm : (n + m) * size = n * size + m * size := Nat.add_mul _ _ _
      have hst := run_storeCells_at P g (o + n * size) e news 0 cur w hg (by rw [hl]; omega) h1
      simp only [Nat.add_zero] at hst
      have hr : (Builtin.append_ #[t, t] ty #[.slice (some ⟨g, o, none⟩) n cap, .slice (some a) m c]).run P w =
          .ok (.slice (some ⟨g, o, none⟩) (n + m) cap) (w.setRow g (cur.toList.take (o + n * size) ++ news ++ cur.toList.drop (o + n * size + news.length)).toArray) := by
        subst hsize
        simp [Builtin.append_, run_underlying ht, sizeOf, typeInfo, hi, Builtin.lenOf, hroom, hfc, Addr.add_lit, hst]
      have hcl : cur.toList.length = cur.size := Array.length_toList
      refine ⟨_, _, hr, ⟨by rw [List.length_append, h.1, hl, hnm], .inr ⟨g, o, cap, _, rfl, hb, setRow_heap w g cur _ e _ hg, hroom, h5, ?_, ?_⟩⟩, ⟨rfl, rfl, rfl, by simp, fun k _ hk => setRow_other w g k _ (fun e => hk (by simp [Value.ownBlock, e]))⟩, .inl rfl⟩
      · simp only [List.size_toArray, List.length_append, List.length_take, List.length_drop, Array.length_toList]
        omega
      · have e1 : cur.toList.take (o + n * size) = cur.toList.take o ++ xs := by
          rw [List.take_add, h7]
        have ho : (cur.toList.take o).length = o := by rw [List.length_take]; omega
        simp only [e1, List.append_assoc]
        rw [List.drop_left' ho, ← List.append_assoc, List.take_left' (by rw [List.length_append, h.1, hl, hnm])]
    · have holds : ∀ j u, xs[j]? = some u → w.cell? ((⟨g, o, none⟩ : Addr).add j) = some u := fun j u hu => by rw [addr_add0]; exact h.cells j u hu
      obtain ⟨v', w', hr, r1, r2⟩ := run_append_arg_grows (P := P) w t ty e i z size bytes ht hi hz hsize hby hzs hsz ⟨g, o, none⟩ n cap xs h.1 holds a m c news hl hnews (by omega) h63 hbytes
      refine ⟨v', w', hr, ?_, ⟨r2.os, r2.tape, r2.output, r2.size, fun k hk _ => r2.block k hk (by simp)⟩, .inr ?_⟩
      · have := Sl.of_own r1
        refine ⟨this.1, ?_⟩
        rcases this.2 with c | ⟨g', o', cap', cur', hv, hB, r⟩
        · exact .inl c
        · exact .inr ⟨g', o', cap', cur', hv, by omega, r⟩
      · have hr2 := run_append_grow (P := P) w t ty e i z ht hi hz ⟨g, o, none⟩ n cap xs (by rw [hsize]; exact h.1) holds a m c news (by rw [hsize]; exact hl) hnews (by omega) (by unfold maxLen at h63; omega) (by subst hby; exact growslice_fits (by omega) hbytes)
        rw [hr2] at hr
        injection hr with hr _
        subst hr
        rfl
/-- 'xs = append(xs, u)' for the walk: one element whose cells lie in a block of their own. -/
theorem wpList_append_sl {ops : Array Oper} {rest : List Oper} {o : Oper} {a : Act} {Q : Exit → Act → World → Prop} (s x : Operand) (t : TypeId) (i : TypeInfo) (z : Value) (bytes C : Nat) (cs : Array Value)
    (hgd : o.guard = none) (ho : o.op = .call { callee := .builtin .append, args := #[s, x], argTypes := #[t, t] })
    (ht : P.underlying t = some (.slice e)) (hi : P.info? e = some i) (hz : i.zero = some z) (hsize : i.size = size) (hby : i.bytes = bytes) (hzs : z.cells.size = size) (hsz : 0 < size) (hcl : cs.size = size) (h1 : ∀ u ∈ cs.toList, u.oneCell' = true)
    (hs : a.eval s = v) (hx : a.eval x = .slice (some ⟨C, 0, none⟩) 1 1)
    (hown : Sl B w e size v n xs) (hb : Blk w C cs e) (hB : B ≤ w.heap.size) (h63 : n + 1 ≤ maxLen) (hbytes : (n + 1) * bytes ≤ 140737488355328)
    (h : ∀ v' w', Sl B w' e size v' (n + 1) (xs ++ cs.toList) → w.grownBy w' v.ownBlock → (v'.ownBlock = v.ownBlock ∨ v'.ownBlock = some w.heap.size) → wpList P ops Q rest (a.put o.dst v') w') :
    wpList P ops Q (o :: rest) a w := by
  refine wpList_plain hgd fun K hK' => ?_
  obtain ⟨v', w', hrun, r1, r2, r3⟩ := run_append_sl (P := P) t o.type i z bytes ht hi hz hsize hby hzs hsz hown ⟨C, 0, none⟩ 1 1 cs.toList (by simpa using hcl) (World.news_of_block hb) h1 h63 hbytes hB
  unfold Oper.wp
  simp [execOp, ho, resolve, invoke, builtin, hs, hx, hrun, Result.andThen]
  exact hK' _ _ (h v' w' r1 r2 r3)
end
end Go.Proofs.YtedapgeabpadaaaDoor

set_option linter.unusedVariables false
namespace Go.Proofs.YtedapgeabpadaaaDoor
open Go.RowKit Pl Go.Shelf

theorem rpropsC_any (K : Nat) (k : Int) (p : Pp) (w : World) (hK : w.cell? ⟨K, 0, none⟩ = some (.int .i64 k)) (hl : K < w.heap.size) :
    Calls Tryd.prog 81 #[.agg #[.int .i64 p.id, .int .i64 p.n, .string p.s, .string p.t], .pointer (some ⟨K, 0, none⟩)] w fun e w' => e = .returned (.bool (!alw k p.id)) ∧ Below w.heap.size w w' := by
  have e1 : (w.alloc (.cells #[.int .i64 p.id, .int .i64 p.n, .string p.s, .string p.t] 123)).cell? ⟨K, 0, none⟩ = some (.int .i64 k) := (World.cell?_alloc_past _ _ _ hl).trans hK
  have b0 : Below w.heap.size w (w.alloc (.cells #[.int .i64 p.id, .int .i64 p.n, .string p.s, .string p.t] 123)) := (Below.refl _ _).alloc (Nat.le_refl _) _
  obtain ⟨t, ht⟩ : ∃ t, alw k p.id = t := ⟨_, rfl⟩
  have CA : ∀ X : World, Calls Tryd.prog 75 #[.int .i64 k, .int .i64 p.id] X fun e w' => e = .returned (.bool t) ∧ Below X.heap.size X w' := fun X => by rw [← ht]; exact allowed_any k p.id X
  rw [ht]
  have CA := Lib.hid CA
  have B0 := Lib.hid b0
  clear ht b0
  cases t
  · go_enter Tryd.func81, Tryd.ntmps81
    go_wp2_with fail
    (with_reducible refine (CA.out _).mono ?_)
    rintro e w1 ⟨rfl, b1⟩
    go_wp2
    go_ret
    exact ⟨rfl, B0.out.trans (b1.mono B0.out.size)⟩
  · go_enter Tryd.func81, Tryd.ntmps81
    go_wp2_with fail
    (with_reducible refine (CA.out _).mono ?_)
    rintro e w1 ⟨rfl, b1⟩
    go_wp2
    go_ret
    exact ⟨rfl, B0.out.trans (b1.mono B0.out.size)⟩
/-- Properties that have been read, in memory of their own. -/
def PsV (B : Nat) (L : List Pp) (u : Value) (w' : World) : Prop := Sl B w' 123 4 u L.length (flat L)
set_option maxHeartbeats 4000000 in
theorem rprops_any (R : Nat) (s : ByteArray) (a k : Int) (w : World) (hR : Blk w R (rdrA s a) 110) (hs : s.size ≤ 140737488351232) (h0 : 0 ≤ a) (h1 : a ≤ s.size) (hT : Tabs w) :
    Calls Tryd.prog 52 #[.pointer (some ⟨R, 0, none⟩), .int .i64 k] w (RrPost R s (PsV w.heap.size) w (rProps k s a)) := by
  have hb0 := (Below.refl w.heap.size w).alloc (Nat.le_refl _) (.cells #[.int .i64 k] 38)
  have hk0 : (w.alloc (.cells #[.int .i64 k] 38)).cell? ⟨w.heap.size, 0, none⟩ = some (.int .i64 k) := (Blk.new w #[.int .i64 k] 38).cell 0
  have hkl : w.heap.size < (w.alloc (.cells #[.int .i64 k] 38)).heap.size := by simp
  obtain ⟨W0, hW0⟩ : ∃ W0, w.alloc (.cells #[.int .i64 k] 38) = W0 := ⟨_, rfl⟩
  rw [hW0] at hb0 hk0 hkl
  have hR0 := hR.of_below hb0
  have c0 := hR0.cell 0
  have c1 := hR0.cell 1
  have hl : R < W0.heap.size := hR0.lt
  simp only [rdrA, List.getElem?_toArray, List.getElem?_cons_zero, List.getElem?_cons_succ] at c0 c1
  have hs0 : S2p W0 R s a := ⟨c0, c1⟩
  have hsd : S2p W0.drew R s a := hs0
  have hld : R < W0.drew.heap.size := hl
  have HB := Lib.hid (show Blk W0.drew R (rdrA s a) 110 from hR0)
  have HM0 := Lib.hid ((Mod.of_below (S := (· = R)) hb0).drew)
  have HKD := Lib.hid (show W0.drew.cell? ⟨w.heap.size, 0, none⟩ = some (.int .i64 k) from hk0)
  have HKL := Lib.hid (show w.heap.size < W0.drew.heap.size from hkl)
  have HZ := Lib.hid hb0.size
  have CF := Lib.hid (pget_any s a W0.drew hs (by omega) (by omega) ((hT.below hb0).below ⟨rfl, rfl, rfl, Nat.le_refl _, fun _ _ => rfl⟩))
  have hcod := getP_codes s a
  unfold rProps
  obtain ⟨⟨L, tu, c⟩, hg⟩ : ∃ g, getP s a = g := ⟨_, rfl⟩
  rw [hg] at CF hcod ⊢
  unfold GetPost at CF
  simp only at CF hcod ⊢
  obtain ⟨⟨hc0, hc1⟩, hlen⟩ := hcod
  clear hg hR hR0 c0 c1 h0 h1 hs hT hb0 hk0 hkl
  by_cases h242 : c = 242
  · subst h242
    rw [if_pos rfl]
    go_enter Tryd.func52, Tryd.ntmps52
    go_wp2_with fail
    go_region_held3 (fun X => S2p X R s a) (first | (with_reducible assumption) | exact hs0 | exact hsd | exact y) (first | (go_at_call 80; refine CF.out.mono ?_; rintro e w1 ⟨v, rfl, ow, b1⟩; have y : S2p w1 R s a := s2p_blw hsd hld b1) | (fail))
    all_goals
      have HM := Lib.hid (HM0.out.add b1)
      clear b1 ow
      go_wp2_with (first | (go_at_call 34; (with_reducible refine (must_false _).mono ?_); rintro e w2 ⟨rfl, rfl⟩) | (fail))
      exact ⟨rfl, rfl, HM.out⟩
  · have e242 : (c != 242) = true := by simp [h242]
    rw [if_neg h242]
    by_cases hc : c = 0
    · subst hc
      rw [if_neg (by simp)]
      have hR2 : ∀ (q : Bool), okAll k L = q → L.any (fun p => !alw k p.id) = !q := by intro q hq; rw [← hq]; simp [okAll]
      cases hok : okAll k L with
      | false =>
        have hany := hR2 _ hok
        rw [if_pos rfl]
        go_enter Tryd.func52, Tryd.ntmps52
        go_wp2_with fail
        go_region_held3 (fun X => S2p X R s a) (first | (with_reducible assumption) | exact hs0 | exact hsd | exact y) (first | (go_at_call 80; refine CF.out.mono ?_; rintro e w1 ⟨v, rfl, ow, b1⟩; have y : S2p w1 R s a := s2p_blw hsd hld b1) | (fail))
        all_goals
          obtain ⟨ao, cap, rfl, -⟩ := (Sl.of_own ow).form
          have HM := Lib.hid (HM0.out.add b1)
          have hk1 : w1.cell? ⟨w.heap.size, 0, none⟩ = some (.int .i64 k) := (b1.cell (p := ⟨w.heap.size, 0, none⟩) HKL.out).trans HKD.out
          have hkl1 : w.heap.size < w1.heap.size := Nat.lt_of_lt_of_le HKL.out b1.size
          have CC := Lib.hid (pcontains_any 81 #[] #[.pointer (some ⟨w.heap.size, 0, none⟩)] (fun p => !alw k p.id) ao L.length cap L w1 rfl (by omega) (own_row ow rfl) (enters_of Tryd.func81 (by kernel_rfl) rfl)
            (fun p W hbW => rpropsC_any w.heap.size k p W ((hbW.cell (p := ⟨w.heap.size, 0, none⟩) hkl1).trans hk1) (Nat.lt_of_lt_of_le hkl1 hbW.size)))
          rw [hany] at CC
          clear hk1 hkl1
          go_wp2_with (first | (go_at_call 34; (with_reducible refine (must_true _).mono ?_); rintro e w2 ⟨rfl, rfl⟩) | (fail))
          (with_reducible refine CC.out.mono ?_)
          rintro e w2 ⟨rfl, b2⟩
          have HM2 := Lib.hid (HM.out.add b2)
          clear b2 CC
          go_wp2_with fail
          (with_reducible refine (fail_any _ _).mono ?_)
          rintro e w3 ⟨rfl, rfl⟩
          exact ⟨rfl, rfl, HM2.out⟩
      | true =>
        have hany := hR2 _ hok
        rw [if_neg (by decide)]
        go_enter Tryd.func52, Tryd.ntmps52
        go_wp2_with fail
        go_region_held3 (fun X => S2p X R s a) (first | (with_reducible assumption) | exact hs0 | exact hsd | exact y) (first | (go_at_call 80; refine CF.out.mono ?_; rintro e w1 ⟨v, rfl, ow, b1⟩; have y : S2p w1 R s a := s2p_blw hsd hld b1) | (fail))
        all_goals
          obtain ⟨ao, cap, rfl, -⟩ := (Sl.of_own ow).form
          have HM := Lib.hid (HM0.out.add b1)
          have hk1 : w1.cell? ⟨w.heap.size, 0, none⟩ = some (.int .i64 k) := (b1.cell (p := ⟨w.heap.size, 0, none⟩) HKL.out).trans HKD.out
          have hkl1 : w.heap.size < w1.heap.size := Nat.lt_of_lt_of_le HKL.out b1.size
          have CC := Lib.hid (pcontains_any 81 #[] #[.pointer (some ⟨w.heap.size, 0, none⟩)] (fun p => !alw k p.id) ao L.length cap L w1 rfl (by omega) (own_row ow rfl) (enters_of Tryd.func81 (by kernel_rfl) rfl)
            (fun p W hbW => rpropsC_any w.heap.size k p W ((hbW.cell (p := ⟨w.heap.size, 0, none⟩) hkl1).trans hk1) (Nat.lt_of_lt_of_le hkl1 hbW.size)))
          rw [hany] at CC
          clear hk1 hkl1
          go_wp2_with (first | (go_at_call 34; (with_reducible refine (must_true _).mono ?_); rintro e w2 ⟨rfl, rfl⟩) | (fail))
          (with_reducible refine CC.out.mono ?_)
          rintro e w2 ⟨rfl, b2⟩
          have HM2 := Lib.hid (HM.out.add b2)
          have HB2 := Lib.hid ((HB.out.of_below b1).of_below b2)
          have OW := Lib.hid ((Sl.of_own ow).below b2)
          have k1 := HB2.out.frozen 1
          have k2 : w2.cell? ⟨R, 1, none⟩ = some (.int .i64 a) := HB2.out.cell 1
          have HNE := Lib.hid (show (Value.slice ao L.length cap).ownBlock ≠ some R from OW.out.ne HB2.out (by decide))
          clear b2 CC b1 ow
          go_wp2
          go_ret
          refine ⟨_, rfl, ?_, HB2.out.set 1 _, HM2.out.setCell (.inl rfl) _⟩
          have := OW.out.set (R := R) 1 (.int .i64 tu) HNE.out
          refine ⟨this.1, ?_⟩
          rcases this.2 with c | ⟨g, o, cp, cur, h1, h2, h3⟩
          · exact .inl c
          · exact .inr ⟨g, o, cp, cur, h1, Nat.le_trans HZ.out h2, h3⟩
    · rw [if_pos hc]
      go_enter Tryd.func52, Tryd.ntmps52
      have hcn : (c != 0) = true := by simp [hc]
      go_wp2_with fail
      go_region_held3 (fun X => S2p X R s a) (first | (with_reducible assumption) | exact hs0 | exact hsd | exact y) (first | (go_at_call 80; refine CF.out.mono ?_; rintro e w1 ⟨v, rfl, ow, b1⟩; have y : S2p w1 R s a := s2p_blw hsd hld b1) | (fail))
      all_goals
        have HM := Lib.hid (HM0.out.add b1)
        clear b1 ow
        go_wp2_with (first | (go_at_call 34; (with_reducible refine (must_true _).mono ?_); rintro e w2 ⟨rfl, rfl⟩) | (fail))
        (with_reducible refine (fail_any _ _).mono ?_)
        rintro e w3 ⟨rfl, rfl⟩
        exact ⟨rfl, rfl, HM.out⟩
end Go.Proofs.YtedapgeabpadaaaDoor

namespace Go.Proofs.YtedapgeabpadaaaDoor
set_option linter.unusedVariables false
open Go.RowKit Pl

/-- A slice's header. -/
structure Hd where
  A : Option Addr
  n : Nat
  cap : Nat
def Hd.v (h : Hd) : Value := .slice h.A h.n h.cap
/-- A packet's slices. -/
structure Hs where
  c : Hd
  p : Hd
  w : Hd
  s : Hd
  f : Hd
/-- A packet's cells (the code is of the integer kind k). -/
def pkA (k : IntKind) (p : Pk) (m : Hs) : Array Value :=
  #[.int .i64 p.kind, .bool p.dup, .bool p.ret, .int .i64 p.q, .int .i64 p.id, .string p.topic, .string p.payload, .int k p.code, .slice m.c.A m.c.n m.c.cap, .slice m.p.A m.p.n m.p.cap, .string p.client, .bool p.clean, .int .i64 p.keep, .bool p.hasWill,
    .string p.wt, .string p.wp, .int .i64 p.wq, .bool p.wr, .slice m.w.A m.w.n m.w.cap, .bool p.hasUser, .bool p.hasPass, .string p.user, .string p.pass, .bool p.session, .slice m.s.A m.s.n m.s.cap, .slice m.f.A m.f.n m.f.cap]
/-- A row of one-cell values, from an offset on. -/
def VRow (w : World) (A : Option Addr) (L : List Value) : Prop := 0 < L.length → ∃ b o, A = some ⟨b, o, none⟩ ∧ b < w.heap.size ∧ ∀ i x, L[i]? = some x → w.cell? ⟨b, o + i, none⟩ = some x
theorem VRow.below {w w' : World} {A : Option Addr} {L : List Value} (h : VRow w A L) (hb : Below w.heap.size w w') : VRow w' A L := fun hp => by
  obtain ⟨b, o, e, h1, h2⟩ := h hp
  exact ⟨b, o, e, Nat.lt_of_lt_of_le h1 hb.size, fun i x hx => (hb.cell (p := ⟨b, o + i, none⟩) h1).trans (h2 i x hx)⟩
def sbA (x : Sb) : Array Value := #[.string x.f, .int .i64 x.q, .bool x.nl, .bool x.ap, .int .i64 x.h]
/-- A row of a SUBSCRIBE's filters. -/
def SbRow (w : World) (A : Option Addr) (L : List Sb) : Prop := 0 < L.length → ∃ b o, A = some ⟨b, o, none⟩ ∧ b < w.heap.size ∧ ∀ i x, L[i]? = some x → w.cell? ⟨b, o + i * 5, none⟩ = some (.string x.f) ∧ w.cell? ⟨b, o + i * 5 + 1, none⟩ = some (.int .i64 x.q) ∧ w.cell? ⟨b, o + i * 5 + 2, none⟩ = some (.bool x.nl) ∧ w.cell? ⟨b, o + i * 5 + 3, none⟩ = some (.bool x.ap) ∧ w.cell? ⟨b, o + i * 5 + 4, none⟩ = some (.int .i64 x.h)
theorem SbRow.below {w w' : World} {A : Option Addr} {L : List Sb} (h : SbRow w A L) (hb : Below w.heap.size w w') : SbRow w' A L := fun hp => by
  obtain ⟨b, o, e, h1, h2⟩ := h hp
  refine ⟨b, o, e, Nat.lt_of_lt_of_le h1 hb.size, fun i x hx => ?_⟩
  obtain ⟨c0, c1, c2, c3, c4⟩ := h2 i x hx
  exact ⟨(hb.cell (p := ⟨b, o + i * 5, none⟩) h1).trans c0, (hb.cell (p := ⟨b, o + i * 5 + 1, none⟩) h1).trans c1, (hb.cell (p := ⟨b, o + i * 5 + 2, none⟩) h1).trans c2, (hb.cell (p := ⟨b, o + i * 5 + 3, none⟩) h1).trans c3, (hb.cell (p := ⟨b, o + i * 5 + 4, none⟩) h1).trans c4⟩
def i64B (n : Int) : Prop := -9223372036854775808 ≤ n ∧ n ≤ 9223372036854775807
/-- A packet that a machine holds, of bounded texts. -/
structure Pk.fits (p : Pk) : Prop where
  kind : i64B p.kind
  q : i64B p.q
  id : i64B p.id
  keep : i64B p.keep
  wq : i64B p.wq
  code : 0 ≤ p.code ∧ p.code ≤ 255
  topic : p.topic.size ≤ 1048576
  payload : p.payload.size ≤ 1048576
  client : p.client.size ≤ 1048576
  wt : p.wt.size ≤ 1048576
  wp : p.wp.size ≤ 1048576
  user : p.user.size ≤ 1048576
  pass : p.pass.size ≤ 1048576
  ps : p.ps.length ≤ 1048576 ∧ ∀ x ∈ p.ps, x.fits
  wps : p.wps.length ≤ 1048576 ∧ ∀ x ∈ p.wps, x.fits
  codes : p.codes.length ≤ 1048576 ∧ ∀ x ∈ p.codes, 0 ≤ x ∧ x ≤ 255
  subs : p.subs.length ≤ 1048576 ∧ ∀ x ∈ p.subs, x.f.size ≤ 1048576 ∧ i64B x.q ∧ i64B x.h
  filters : p.filters.length ≤ 1048576 ∧ ∀ x ∈ p.filters, x.size ≤ 1048576
/-- A packet's rows stand in a world. -/
structure PkIn (k : IntKind) (w : World) (p : Pk) (m : Hs) : Prop where
  fits : p.fits
  pn : p.ps.length = m.p.n
  pc : m.p.n ≤ m.p.cap
  pr : PRow w m.p.A p.ps
  wn : p.wps.length = m.w.n
  wc : m.w.n ≤ m.w.cap
  wr : PRow w m.w.A p.wps
  cn : p.codes.length = m.c.n
  cc : m.c.n ≤ m.c.cap
  cr : VRow w m.c.A (p.codes.map (Value.int k))
  sn : p.subs.length = m.s.n
  sc : m.s.n ≤ m.s.cap
  sr : SbRow w m.s.A p.subs
  fn : p.filters.length = m.f.n
  fc : m.f.n ≤ m.f.cap
  fr : VRow w m.f.A (p.filters.map Value.string)
  sa : (m.s.A = none ∧ m.s.cap = 0) ∨ ∃ a, m.s.A = some a
  fa : (m.f.A = none ∧ m.f.cap = 0) ∨ ∃ a, m.f.A = some a
theorem PkIn.below {k : IntKind} {w w' : World} {p : Pk} {m : Hs} (h : PkIn k w p m) (hb : Below w.heap.size w w') : PkIn k w' p m :=
  ⟨h.fits, h.pn, h.pc, h.pr.below hb, h.wn, h.wc, h.wr.below hb, h.cn, h.cc, h.cr.below hb, h.sn, h.sc, h.sr.below hb, h.fn, h.fc, h.fr.below hb, h.sa, h.fa⟩
end Go.Proofs.YtedapgeabpadaaaDoor

set_option linter.unusedVariables false
namespace Go.Proofs.YtedapgeabpadaaaDoor
open Go.RowKit Pl Go.Shelf Go.PlainAid

theorem hb_1 : ∀ n : Fin 256, bits .and .i64 ((n.val : Nat) : Int) 1 = ((n.val % 2 : Nat) : Int) := by decide +kernel
theorem hb_2 : ∀ n : Fin 256, bits .and .i64 ((n.val : Nat) : Int) 2 = ((n.val / 2 % 2 * 2 : Nat) : Int) := by decide +kernel
theorem hb_3 : ∀ n : Fin 256, bits .and .i64 ((n.val : Nat) : Int) 3 = ((n.val % 4 : Nat) : Int) := by decide +kernel
theorem hb_4 : ∀ n : Fin 256, bits .and .i64 ((n.val : Nat) : Int) 4 = ((n.val / 4 % 2 * 4 : Nat) : Int) := by decide +kernel
theorem hb_8 : ∀ n : Fin 256, bits .and .i64 ((n.val : Nat) : Int) 8 = ((n.val / 8 % 2 * 8 : Nat) : Int) := by decide +kernel
theorem hb_15 : ∀ n : Fin 256, bits .and .i64 ((n.val : Nat) : Int) 15 = ((n.val % 16 : Nat) : Int) := by decide +kernel
theorem hb_32 : ∀ n : Fin 256, bits .and .i64 ((n.val : Nat) : Int) 32 = ((n.val / 32 % 2 * 32 : Nat) : Int) := by decide +kernel
theorem hb_56 : ∀ n : Fin 256, bits .and .i64 ((n.val : Nat) : Int) 56 = ((n.val / 8 % 8 * 8 : Nat) : Int) := by decide +kernel
theorem hb_64 : ∀ n : Fin 256, bits .and .i64 ((n.val : Nat) : Int) 64 = ((n.val / 64 % 2 * 64 : Nat) : Int) := by decide +kernel
theorem hb_128 : ∀ n : Fin 256, bits .and .i64 ((n.val : Nat) : Int) 128 = ((n.val / 128 % 2 * 128 : Nat) : Int) := by decide +kernel
theorem hb_fin {b : Int} (h0 : 0 ≤ b) (h1 : b < 256) : ∃ n : Fin 256, b = ((n.val : Nat) : Int) := ⟨⟨b.toNat, by omega⟩, by simp; omega⟩
section
variable {n : Int} (h0 : 0 ≤ n) (h1 : n < 256)
include h0 h1
theorem nb_1 : bits .and .i64 n 1 = n % 2 := by obtain ⟨k, rfl⟩ := hb_fin h0 h1; rw [hb_1]; omega
theorem nb_2 : bits .and .i64 n 2 = n / 2 % 2 * 2 := by obtain ⟨k, rfl⟩ := hb_fin h0 h1; rw [hb_2]; omega
theorem nb_3 : bits .and .i64 n 3 = n % 4 := by obtain ⟨k, rfl⟩ := hb_fin h0 h1; rw [hb_3]; omega
theorem nb_4 : bits .and .i64 n 4 = n / 4 % 2 * 4 := by obtain ⟨k, rfl⟩ := hb_fin h0 h1; rw [hb_4]; omega
theorem nb_8 : bits .and .i64 n 8 = n / 8 % 2 * 8 := by obtain ⟨k, rfl⟩ := hb_fin h0 h1; rw [hb_8]; omega
theorem nb_15 : bits .and .i64 n 15 = n % 16 := by obtain ⟨k, rfl⟩ := hb_fin h0 h1; rw [hb_15]; omega
theorem nb_32 : bits .and .i64 n 32 = n / 32 % 2 * 32 := by obtain ⟨k, rfl⟩ := hb_fin h0 h1; rw [hb_32]; omega
theorem nb_56 : bits .and .i64 n 56 = n / 8 % 8 * 8 := by obtain ⟨k, rfl⟩ := hb_fin h0 h1; rw [hb_56]; omega
theorem nb_64 : bits .and .i64 n 64 = n / 64 % 2 * 64 := by obtain ⟨k, rfl⟩ := hb_fin h0 h1; rw [hb_64]; omega
theorem nb_128 : bits .and .i64 n 128 = n / 128 % 2 * 128 := by obtain ⟨k, rfl⟩ := hb_fin h0 h1; rw [hb_128]; omega
end
theorem nz_dec {x y : Int} {p : Prop} [Decidable p] (h : x = y) (hp : (y ≠ 0) ↔ p) : (x != 0) = decide p := by
  subst h
  by_cases c : x = 0
  · have : ¬ p := fun hc => hp.2 hc c
    simp [c, this]
  · have : p := hp.1 c
    simp [c, this]
/-- A byte is one. -/
theorem rNum_byte {s : ByteArray} {a n b : Int} (h : rNum s 1 a = .ok (n, b)) : 0 ≤ n ∧ n < 256 := by
  unfold rNum at h
  split at h
  · rename_i h1
    cases h
    obtain ⟨⟨n, tu, c⟩, hg⟩ : ∃ g, getF s a 1 = g := ⟨_, rfl⟩
    rw [hg] at h1 ⊢
    simp only at h1
    subst h1
    obtain ⟨i, k, rfl, hk, rfl, _, _, rfl⟩ := getF_to hg
    have hk1 : k = 1 := by omega
    subst hk1
    have := gv_bd s i 1
    simpa using this
  · cases h
theorem sbi_size : (Tryd.prog.info? 84).map (·.size) = some 5 := by kernel_rfl
theorem sb_one (x : Sb) : (sbA x).all (·.oneCell') = true := by simp [sbA]; simp [Value.oneCell']
theorem blkAt (w : World) (cs : Array Value) (T : TypeId) {b : Nat} (h : b = w.heap.size) : Blk (w.alloc (.cells cs T)) b cs T := by subst h; exact Blk.new w cs T
theorem Blk.row0 {w : World} {g : Nat} {cs : Array Value} {t : TypeId} (h : Blk w g cs t) (cs' : Array Value) : Blk (w.setRow g cs') g cs' t := setRow_heap w g cs cs' t (0, 0) h
theorem Blk.row1 {w : World} {g g' : Nat} {cs : Array Value} {t : TypeId} (h : Blk w g cs t) (hg : g ≠ g') (cs' : Array Value) : Blk (w.setRow g' cs') g cs t := (setRow_other w g' g cs' hg).trans h
theorem Mod.setRow {S : Nat → Prop} {a b : World} (h : Mod S a b) {g : Nat} (hg : S g ∨ a.heap.size ≤ g) (cs : Array Value) : Mod S a (b.setRow g cs) :=
  ⟨h.os, h.tape, h.output, by simpa using h.size, fun k hk hn => (setRow_other b g k cs (fun e => by subst e; rcases hg with c | c; exact hn c; omega)).trans (h.block k hk hn)⟩
theorem wpList_store_rowN {P : Program} {ops : Array Oper} {rest : List Oper} {o : Oper} {a : Act} {w : World} {Q : Exit → Act → World → Prop} (hgd : o.guard = none) (ty : TypeId) (x y : Operand) (ho : o.op = .store ty x y)
    (hd : o.dst = none) (g : Nat) (cells : Array Value) (hx : a.eval x = .pointer (some ⟨g, 0, none⟩)) (hy : a.eval y = .agg cells)
    (t : TypeId) (old : Array Value) (hg : w.heap[g]? = some (.cells old t (0, 0))) (hi : (P.info? ty).map (·.size) = some cells.size)
    (hold : old.size = cells.size) (h1 : cells.all (·.oneCell') = true) (Z : World) (hZ : w.setRow g cells = Z)
    (h : wpList P ops Q rest a Z) : wpList P ops Q (o :: rest) a w :=
  Go.wpList_store_rowTo hgd ty x y ho hd g cells hx hy t old hg hi hold h1 (by rw [hZ]; exact h)
def zSb : Sb := ⟨⟨#[]⟩, 0, false, false, 0⟩
set_option maxHeartbeats 4000000 in
theorem rsub_any (R : Nat) (s : ByteArray) (a : Int) (w : World) (hR : Blk w R (rdrA s a) 110) (hs : s.size ≤ 140737488351232) (h0 : 0 ≤ a) (h1 : a ≤ s.size) (hT : Tabs w) (hN : NoTab R) :
    Calls Tryd.prog 83 #[.pointer (some ⟨R, 0, none⟩)] w (RrPost R s (fun x u _ => u = .agg (sbA x)) w (rSub s a)) := by
  have hRl := hR.lt
  have hb0 := (Below.refl w.heap.size w).alloc (Nat.le_refl _) (.cells (sbA zSb) 84)
  have hB0 := blkAt w (sbA zSb) 84 rfl
  obtain ⟨W0, hW0⟩ : ∃ W0, w.alloc (.cells (sbA zSb) 84) = W0 := ⟨_, rfl⟩
  rw [hW0] at hb0 hB0
  have hR0 := hR.of_below hb0
  have hT0 := hT.below hb0
  have CT := Lib.hid (rtext_any R s a W0 hR0 hs h0 h1 (hT0.below ⟨rfl, rfl, rfl, Nat.le_refl _, fun _ _ => rfl⟩))
  have HB0 := Lib.hid hB0
  have HM0 := Lib.hid (Mod.of_below (S := (· = R)) hb0)
  have HZ0 := Lib.hid hb0.size
  have HT0 := Lib.hid hT0
  unfold rSub
  obtain ⟨r, hr⟩ : ∃ r, rText s a = r := ⟨_, rfl⟩
  rw [hr] at CT ⊢
  unfold sbA zSb at hW0
  clear hR hR0 hb0 hB0 hT0 hT h0 h1
  cases r with
  | error c =>
    show Calls _ _ _ _ (RrPost R s (fun x u _ => u = Value.agg (sbA x)) w (Except.error c : RR Sb))
    go_enter Tryd.func83, Tryd.ntmps83
    go_wp2_with fail
    (with_reducible refine CT.out.mono ?_)
    rintro e w1 ⟨rfl, hm⟩
    exact ⟨rfl, rfl, HM0.out.trans hm⟩
  | ok v =>
    obtain ⟨f, b⟩ := v
    have hb := rText_at hr
    clear hr
    show Calls _ _ _ _ (RrPost R s (fun x u _ => u = Value.agg (sbA x)) w (bindR (rNum s 1 b) fun n a => if ¬ (n % 4 < 3 ∧ n < 64) then (Except.error 129 : RR Sb) else if n / 16 % 4 = 3 then .error 130 else .ok (sbOf f n, a)))
    obtain ⟨r2, hr2⟩ : ∃ r2, rNum s 1 b = r2 := ⟨_, rfl⟩
    rw [hr2]
    have HR2 := Lib.hid hr2
    clear hr2
    go_enter Tryd.func83, Tryd.ntmps83
    go_wp2_with fail
    (with_reducible refine CT.out.mono ?_)
    rintro e w1 ⟨u, rfl, rfl, hB1, hm1⟩
    have hd1 := hB1.lt
    have hlt : w.heap.size < w1.heap.size := Nat.lt_of_lt_of_le HB0.out.lt hm1.size
    have hB01 : Blk w1 w.heap.size (sbA zSb) 84 := (hm1.block w.heap.size HB0.out.lt (by omega)).trans HB0.out
    have hbl := blkAt w1 (sbA zSb) 84 rfl
    have hB01' := hB01.alloc (.cells (sbA zSb) 84)
    have hB1' := hB1.alloc (.cells (sbA zSb) 84)
    have hm1' := ((HM0.out.trans hm1).alloc (.cells (sbA zSb) 84))
    obtain ⟨W2, hW2⟩ : ∃ W2, w1.alloc (.cells (sbA zSb) 84) = W2 := ⟨_, rfl⟩
    rw [hW2] at hbl hB01' hB1' hm1'
    have hbz := hbl.row0 (sbA ⟨f, 0, false, false, 0⟩)
    have hB01z := hB01'.row1 (by omega) (g' := w1.heap.size) (sbA ⟨f, 0, false, false, 0⟩)
    have hB1z := hB1'.row1 (by omega) (g' := w1.heap.size) (sbA ⟨f, 0, false, false, 0⟩)
    have hmz := hm1'.setRow (g := w1.heap.size) (.inr (by omega)) (sbA ⟨f, 0, false, false, 0⟩)
    obtain ⟨Z, hZ⟩ : ∃ Z, W2.setRow w1.heap.size (sbA ⟨f, 0, false, false, 0⟩) = Z := ⟨_, rfl⟩
    rw [hZ] at hbz hB01z hB1z hmz
    have CN := Lib.hid (rnum_any R s b 1 Z hB1z hs (by omega) (by omega))
    rw [HR2.out] at CN
    have HBL := Lib.hid hbl
    have HBZ := Lib.hid hbz
    have HB01Z := Lib.hid hB01z
    have HMZ := Lib.hid hmz
    have HZ := Lib.hid hZ
    unfold sbA zSb at hW2
    clear hB1 hm1 hbl hB01' hB1' hm1' hbz hB01z hB1z hmz hZ hB01
    go_wp2_with (first | (refine wpList_buildTo rfl 84 _ rfl (some 7) rfl (sbA ⟨f, 0, false, false, 0⟩) (by kernel_rfl) ?_) | (refine wpList_store_rowN rfl 84 (.tmp 3) (.tmp 7) rfl rfl w1.heap.size (sbA ⟨f, 0, false, false, 0⟩) rfl rfl 84 (sbA zSb) HBL.out sbi_size rfl (sb_one _) Z HZ.out ?_) | (fail))
    (with_reducible refine CN.out.mono ?_)
    cases r2 with
    | error c =>
      rintro e w3 ⟨rfl, hm3⟩
      exact ⟨rfl, rfl, HMZ.out.trans hm3⟩
    | ok v2 =>
      obtain ⟨n, tu⟩ := v2
      have hn := rNum_byte HR2.out
      rintro e w3 ⟨u, rfl, rfl, hB3, hm3⟩
      have hZl := HBZ.out.lt
      have h01l := HB01Z.out.lt
      have hL3 : Blk w3 w1.heap.size (sbA ⟨f, 0, false, false, 0⟩) 84 := (hm3.block w1.heap.size hZl (by omega)).trans HBZ.out
      have h03 : Blk w3 w.heap.size (sbA zSb) 84 := (hm3.block w.heap.size h01l (by omega)).trans HB01Z.out
      have hm3' := HMZ.out.trans hm3
      have e3 := nb_3 hn.1 hn.2
      have e16 : bits .and .i64 (n / 16) 3 = n / 16 % 4 := nb_3 (by omega) (by omega)
      have e4 : (bits .and .i64 n 4 != 0) = decide (n / 4 % 2 = 1) := nz_dec (nb_4 hn.1 hn.2) (by omega)
      have e8 : (bits .and .i64 n 8 != 0) = decide (n / 8 % 2 = 1) := nz_dec (nb_8 hn.1 hn.2) (by omega)
      obtain ⟨q3, hq3⟩ : ∃ q, n % 4 = q := ⟨_, rfl⟩
      obtain ⟨q16, hq16⟩ : ∃ q, n / 16 % 4 = q := ⟨_, rfl⟩
      obtain ⟨b4, hb4⟩ : ∃ q, decide (n / 4 % 2 = 1) = q := ⟨_, rfl⟩
      obtain ⟨b8, hb8⟩ : ∃ q, decide (n / 8 % 2 = 1) = q := ⟨_, rfl⟩
      have hso : sbOf f n = ⟨f, q3, b4, b8, q16⟩ := by unfold sbOf; rw [hq3, hq16, hb4, hb8]
      rw [hq3] at e3
      rw [hq16] at e16
      rw [hb4] at e4
      rw [hb8] at e8
      obtain ⟨X, hX⟩ : ∃ X, (((w3.setCell ⟨w1.heap.size, 1, none⟩ (.int .i64 q3)).setCell ⟨w1.heap.size, 2, none⟩ (.bool b4)).setCell ⟨w1.heap.size, 3, none⟩ (.bool b8)).setCell ⟨w1.heap.size, 4, none⟩ (.int .i64 q16) = X := ⟨_, rfl⟩
      have hLX : Blk X w1.heap.size (sbA ⟨f, q3, b4, b8, q16⟩) 84 := by rw [← hX]; exact (((hL3.set 1 _).set 2 _).set 3 _).set 4 _
      have hRX : Blk X R (rdrA s tu) 110 := by rw [← hX]; exact (((hB3.other (by omega) 1 _).other (by omega) 2 _).other (by omega) 3 _).other (by omega) 4 _
      have h0X : Blk X w.heap.size (sbA zSb) 84 := by rw [← hX]; exact (((h03.other (by omega) 1 _).other (by omega) 2 _).other (by omega) 3 _).other (by omega) 4 _
      have hmX : Mod (· = R) w X := by rw [← hX]; exact (((hm3'.setCell (p := ⟨w1.heap.size, 1, none⟩) (.inr (by show w.heap.size ≤ w1.heap.size; omega)) _).setCell (p := ⟨w1.heap.size, 2, none⟩) (.inr (by show w.heap.size ≤ w1.heap.size; omega)) _).setCell (p := ⟨w1.heap.size, 3, none⟩) (.inr (by show w.heap.size ≤ w1.heap.size; omega)) _).setCell (p := ⟨w1.heap.size, 4, none⟩) (.inr (by show w.heap.size ≤ w1.heap.size; omega)) _
      have HLX := Lib.hid hLX
      have HRX := Lib.hid hRX
      have H0X := Lib.hid h0X
      have HMX := Lib.hid hmX
      have hx0 := hLX.cell 0
      have hx1 : X.cell? ⟨w1.heap.size, 1, none⟩ = some (.int .i64 q3) := hLX.cell 1
      have hx4 : X.cell? ⟨w1.heap.size, 4, none⟩ = some (.int .i64 q16) := hLX.cell 4
      have y1 : w3.cell? ⟨w1.heap.size, 1, none⟩ = some (.int .i64 0) := hL3.cell 1
      have y2 : w3.cell? ⟨w1.heap.size, 2, none⟩ = some (.bool false) := hL3.cell 2
      have y3 : w3.cell? ⟨w1.heap.size, 3, none⟩ = some (.bool false) := hL3.cell 3
      have y4 : w3.cell? ⟨w1.heap.size, 4, none⟩ = some (.int .i64 0) := hL3.cell 4
      have z1 := hL3.frozen 1
      have z2 := hL3.frozen 2
      have z3 := hL3.frozen 3
      have z4 := hL3.frozen 4
      obtain ⟨n0, n1⟩ := hn
      have HSO := Lib.hid hso
      have HQ3 := Lib.hid hq3
      have HQ16 := Lib.hid hq16
      have HBB := Lib.hid hb
      clear hLX hRX h0X hmX hx0 hB3 hm3 hm3' hL3 h03 hso hq3 hq16 hb4 hb8 CN CT HMZ HB01Z hb HBL HBZ HZ HT0
      have key : bindR (Except.ok (n, tu)) (fun n a => if ¬ (n % 4 < 3 ∧ n < 64) then (Except.error 129 : RR Sb) else if n / 16 % 4 = 3 then .error 130 else .ok (sbOf f n, a)) = if ¬ (q3 < 3 ∧ n < 64) then (Except.error 129 : RR Sb) else if q16 = 3 then .error 130 else .ok (⟨f, q3, b4, b8, q16⟩, tu) := by
        show (if ¬ (n % 4 < 3 ∧ n < 64) then (Except.error 129 : RR Sb) else if n / 16 % 4 = 3 then .error 130 else .ok (sbOf f n, tu)) = _
        rw [HQ3.out, HQ16.out, HSO.out]
      have KEY := Lib.hid key
      clear key
      by_cases hg : q3 < 3 ∧ n < 64
      · obtain ⟨g1, g2⟩ := hg
        by_cases hg3 : q16 = 3
        · subst hg3
          go_wp2_with (first | (go_at_call 34; (with_reducible refine (must_true _).mono ?_); rintro e w2 ⟨rfl, rfl⟩) | (fail))
          (with_reducible refine (fail_any _ _).mono ?_)
          rintro e w4 ⟨rfl, rfl⟩
          refine ⟨rfl, ?_⟩
          rw [KEY.out, if_neg (by simp [g1, g2]), if_pos trivial]
          exact ⟨rfl, HMX.out⟩
        · have hg4 : (q16 == 3) = false := by rw [beq_eq_false_iff_ne]; exact hg3
          go_wp2_with (first | (go_at_call 34; (with_reducible refine (must_true _).mono ?_); rintro e w2 ⟨rfl, rfl⟩) | (refine wpList_load_row rfl 84 (.tmp 3) rfl w1.heap.size rfl 84 (sbA ⟨f, q3, b4, b8, q16⟩) (0, 0) _ HLX.out Tryd.underlying84 rfl sbi_size ?_) | (refine Go.wpList_store_rowTo rfl 84 (.tmp 2) (.tmp 37) rfl rfl w.heap.size (sbA ⟨f, q3, b4, b8, q16⟩) rfl rfl 84 (sbA zSb) H0X.out sbi_size rfl (sb_one _) ?_) | (fail))
          refine bodyPost_ret (v := .agg (sbA ⟨f, q3, b4, b8, q16⟩)) (results_cell_row (p := 2) (ty := 84) (by kernel_rfl) _ _ w.heap.size 84 _ (0, 0) _ rfl (H0X.out.row0 _) Tryd.underlying84 rfl sbi_size) rfl ?_
          rw [KEY.out, if_neg (by simp [g1, g2]), if_neg hg3]
          exact ⟨_, rfl, rfl, HRX.out.row1 (by omega) _, HMX.out.setRow (.inr (Nat.le_refl _)) _⟩
      · by_cases g1 : q3 < 3
        · have g2 : decide (n < 64) = false := decide_eq_false fun c => hg ⟨g1, c⟩
          go_wp2_with (first | (go_at_call 34; (with_reducible refine (must_false _).mono ?_); rintro e w2 ⟨rfl, rfl⟩) | (fail))
          refine ⟨rfl, ?_⟩
          rw [KEY.out, if_pos hg]
          exact ⟨rfl, HMX.out⟩
        · go_wp2_with (first | (go_at_call 34; (with_reducible refine (must_false _).mono ?_); rintro e w2 ⟨rfl, rfl⟩) | (fail))
          refine ⟨rfl, ?_⟩
          rw [KEY.out, if_pos hg]
          exact ⟨rfl, HMX.out⟩
end Go.Proofs.YtedapgeabpadaaaDoor

set_option linter.unusedVariables false
namespace Go.Proofs.YtedapgeabpadaaaDoor
open Go.RowKit Pl Go.Shelf Go.PlainAid

def sbF (L : List Sb) : List Value := L.flatMap fun x => (sbA x).toList
/-- A packet's lists, in memory of their own. -/
structure PkO (B : Nat) (w : World) (p : Pk) (m : Hs) : Prop where
  ps : Sl B w 123 4 m.p.v p.ps.length (flat p.ps)
  wps : Sl B w 123 4 m.w.v p.wps.length (flat p.wps)
  cs : Sl B w 30 1 m.c.v p.codes.length (p.codes.map (Value.int .u8))
  ss : Sl B w 84 5 m.s.v p.subs.length (sbF p.subs)
  fs : Sl B w 9 1 m.f.v p.filters.length (p.filters.map Value.string)
theorem PkO.same {B : Nat} {w w' : World} {p : Pk} {m : Hs} (h : PkO B w p m) (hk : ∀ (e : TypeId) (size : Nat) v n xs, Sl B w e size v n xs → (e = 123 ∨ e = 30 ∨ e = 84 ∨ e = 9) → Sl B w' e size v n xs) : PkO B w' p m :=
  ⟨hk _ _ _ _ _ h.ps (.inl rfl), hk _ _ _ _ _ h.wps (.inl rfl), hk _ _ _ _ _ h.cs (.inr (.inl rfl)), hk _ _ _ _ _ h.ss (.inr (.inr (.inl rfl))), hk _ _ _ _ _ h.fs (.inr (.inr (.inr rfl)))⟩
theorem Sl.mono' {B B' n size : Nat} {w : World} {e : TypeId} {v : Value} {xs : List Value} (h : Sl B w e size v n xs) (hB : B' ≤ B) : Sl B' w e size v n xs := by
  refine ⟨h.1, ?_⟩
  rcases h.2 with c | ⟨g, o, cap, cur, h1, h2, r⟩
  · exact .inl c
  · exact .inr ⟨g, o, cap, cur, h1, by omega, r⟩
theorem Sl.one_mod {B n size R : Nat} {w w' : World} {e T : TypeId} {v : Value} {xs : List Value} {cs : Array Value} (h : Sl B w e size v n xs) (hb : Blk w R cs T) (hT : T ≠ e) (m : Mod (· = R) w w') : Sl B w' e size v n xs :=
  h.same fun k hk => m.block k (h.lt k hk).2 fun c => h.ne hb hT (by rw [hk, c])
/-- The reader R (bytes s, place a) and the packet P (p, its lists m), in a world that has come of w. -/
structure St (w : World) (R P : Nat) (s : ByteArray) (a : Int) (p : Pk) (m : Hs) (X : World) : Prop where
  rB : Blk X R (rdrA s a) 110
  pB : Blk X P (pkA .u8 p m) 45
  o : PkO w.heap.size X p m
  md : Mod (fun k => k = R ∨ k = P) w X
  tb : Tabs X
  lR : R < w.heap.size
  lP : P < w.heap.size
  ne : R ≠ P
  nR : NoTab R
  nP : NoTab P
  a0 : 0 ≤ a
  a1 : a ≤ s.size
  sz : s.size ≤ 140737488351232
section
variable {w : World} {R P : Nat} {s : ByteArray} {a : Int} {p : Pk} {m : Hs} {X : World}
theorem St.read (h : St w R P s a p m X) {b : Int} {Y : World} (hb : Blk Y R (rdrA s b) 110) (hm : Mod (· = R) X Y) (ha : a ≤ b ∧ b ≤ s.size ∧ 0 ≤ a) : St w R P s b p m Y :=
  ⟨hb, (hm.block P h.pB.lt (fun c => h.ne c.symm)).trans h.pB,
    h.o.same (fun e size v n xs hs he => hs.one_mod h.rB (by rcases he with rfl | rfl | rfl | rfl <;> decide) hm),
    h.md.trans (hm.weaken (fun k _ c => .inl c)), tabs_mod h.tb hm h.nR, h.lR, h.lP, h.ne, h.nR, h.nP, by have := h.a0; omega, ha.2.1, h.sz⟩
theorem St.set (h : St w R P s a p m X) (i : Nat) (v : Value) (p' : Pk) (m' : Hs) (e : (pkA .u8 p m).setIfInBounds i v = pkA .u8 p' m') (ho : PkO w.heap.size X p' m') : St w R P s a p' m' (X.setCell ⟨P, i, none⟩ v) :=
  ⟨h.rB.other h.ne i v, by rw [← e]; exact h.pB.set i v,
    ho.same (fun e size u n xs hs he => hs.set i v (hs.ne h.pB (by rcases he with rfl | rfl | rfl | rfl <;> decide))),
    h.md.setCell (.inl (.inr rfl)) v, tabs_set h.tb h.nP v, h.lR, h.lP, h.ne, h.nR, h.nP, h.a0, h.a1, h.sz⟩
theorem St.drew (h : St w R P s a p m X) (n : Nat) : St w R P s a p m (X.drewN n) :=
  ⟨h.rB, h.pB, ⟨h.o.ps, h.o.wps, h.o.cs, h.o.ss, h.o.fs⟩, ⟨h.md.os, h.md.tape, h.md.output, h.md.size, h.md.block⟩, h.tb.below ⟨rfl, rfl, rfl, Nat.le_refl _, fun _ _ => rfl⟩, h.lR, h.lP, h.ne, h.nR, h.nP, h.a0, h.a1, h.sz⟩
theorem St.heap (h : St w R P s a p m X) {Y : World} (b : Below X.heap.size X Y) : St w R P s a p m Y :=
  ⟨h.rB.of_below b, h.pB.of_below b, h.o.same (fun e size v n xs hs he => hs.below b), h.md.add b, h.tb.below b, h.lR, h.lP, h.ne, h.nR, h.nP, h.a0, h.a1, h.sz⟩
/-- What is left where a code leaves it. -/
def Gone (w : World) (R P : Nat) (Y : World) : Prop := Mod (fun k => k = R ∨ k = P) w Y ∧ ∃ p m, Blk Y P (pkA .u8 p m) 45
theorem St.gone (h : St w R P s a p m X) : Gone w R P X := ⟨h.md, p, m, h.pB⟩
theorem St.goneR (h : St w R P s a p m X) {Y : World} (hm : Mod (· = R) X Y) : Gone w R P Y :=
  ⟨h.md.trans (hm.weaken (fun k _ c => .inl c)), p, m, (hm.block P h.pB.lt (fun c => h.ne c.symm)).trans h.pB⟩
end
/-- What a method that reads into a packet leaves. -/
def PkPost' (w : World) (R P : Nat) (s : ByteArray) (r : RR Pk) (e : Ending) (Y : World) : Prop :=
  match r with
  | .ok (p, a) => e = .returned (.tuple #[]) ∧ ∃ m, St w R P s a p m Y
  | .error c => e = .panicked (flt_ c) ∧ Gone w R P Y
theorem getP_at {s : ByteArray} {a : Int} (h : (getP s a).2.2 = 0) : a ≤ (getP s a).2.1 ∧ (getP s a).2.1 ≤ s.size := by
  unfold getP at h ⊢
  by_cases h1 : (getV s a).2.2 ≠ 0
  · rw [if_pos h1] at h; exact absurd h h1
  · rw [if_neg h1] at h ⊢
    by_cases h2 : (s.size : Int) - (getV s a).2.1 < (getV s a).1
    · rw [if_pos h2] at h; simp at h
    · rw [if_neg h2] at h ⊢
      obtain ⟨r, hr⟩ : ∃ r, pgs (s.extract (getV s a).2.1.toNat ((getV s a).2.1.toNat + (getV s a).1.toNat)) 66 [] 0 = r := ⟨_, rfl⟩
      rw [hr] at h ⊢
      by_cases h3 : r.2 ≠ 0
      · simp only at h; rw [if_pos h3] at h; exact absurd h h3
      · simp only
        rw [if_neg h3]
        have hc : (getV s a).2.2 = 0 := Classical.byContradiction h1
        obtain ⟨i, j, hi, hj, hij, hjs, _, hn0, hn1⟩ := getV_to (s := s) (a := a) (n := (getV s a).1) (tu := (getV s a).2.1) (Prod.ext rfl (Prod.ext rfl hc))
        simp only
        omega
theorem rProps_at {k : Int} {s : ByteArray} {a b : Int} {L : List Pp} (h : rProps k s a = .ok (L, b)) (ha : 0 ≤ a) : a ≤ b ∧ b ≤ s.size ∧ 0 ≤ a := by
  unfold rProps at h
  by_cases h1 : (getP s a).2.2 = 242
  · rw [if_pos h1] at h; cases h
  · rw [if_neg h1] at h
    by_cases h2 : (getP s a).2.2 ≠ 0
    · rw [if_pos h2] at h; cases h
    · rw [if_neg h2] at h
      by_cases h3 : okAll k (getP s a).1 = false
      · rw [if_pos h3] at h; cases h
      · rw [if_neg h3] at h
        cases h
        have := getP_at (s := s) (a := a) (Classical.byContradiction h2)
        exact ⟨this.1, this.2, ha⟩
theorem rId_at {s : ByteArray} {a n b : Int} (h : rId s a = .ok (n, b)) : a ≤ b ∧ b ≤ s.size ∧ 0 ≤ a := by
  unfold rId at h
  obtain ⟨r, hr⟩ : ∃ r, rNum s 2 a = r := ⟨_, rfl⟩
  rw [hr] at h
  cases r with
  | error c => cases h
  | ok v =>
    obtain ⟨x, y⟩ := v
    simp only [bindR] at h
    split at h
    · cases h
    · cases h; exact rNum_at hr
end Go.Proofs.YtedapgeabpadaaaDoor

set_option linter.unusedVariables false
namespace Go.Proofs.YtedapgeabpadaaaDoor
open Go.RowKit Pl Go.Shelf Go.PlainAid

theorem bR_ok {α β : Type} {v : α} {a : Int} {k : α → Int → RR β} : bindR (.ok (v, a)) k = k v a := rfl
theorem bR_err {α β : Type} {c : Int} {k : α → Int → RR β} : bindR (.error c) k = .error c := rfl

set_option maxHeartbeats 8000000 in
set_option maxRecDepth 100000 in
theorem rend_any {w : World} {R P : Nat} {s : ByteArray} {a : Int} {p : Pk} {m : Hs} {X : World} (h : St w R P s a p m X) :
    Calls Tryd.prog 55 #[.pointer (some ⟨R, 0, none⟩), .pointer (some ⟨P, 0, none⟩)] X (PkPost' w R P s (rEnd s p a)) := by
  have H0 := Lib.hid h
  obtain ⟨RES, hres⟩ : ∃ RES, rEnd s p a = RES := ⟨_, rfl⟩
  rw [hres]
  unfold rEnd at hres
  have HK0 := Lib.hid hres
  clear h hres
  go_enter Tryd.func55, Tryd.ntmps55
  have CL1 := Lib.hid (left_any R s a X H0.out.rB)
  go_wp2_with fail
  (with_reducible refine CL1.out.mono ?_)
  rintro e Y1 ⟨rfl, hb1, hh1⟩
  have HL1 := Lib.hid (H0.out.heap hb1)
  clear hb1 hh1 CL1 
  by_cases hl1 : a < (s.size : Int)
  · have hd1 : decide (a < (s.size : Int)) = true := by simp [hl1]
    rw [hd1]
    have hk1 := HK0.out
    rw [if_pos hl1] at hk1
    have HKY1 := Lib.hid hk1; clear hk1
    obtain ⟨r2, e2⟩ : ∃ r, rNum s 1 a = r := ⟨_, rfl⟩
    have C2 := Lib.hid (rnum_any R s a 1 Y1 HL1.out.rB HL1.out.sz HL1.out.a0 HL1.out.a1)
    rw [e2] at C2
    have hk2 := HKY1.out
    rw [e2] at hk2
    have EE2 := Lib.hid e2
    clear e2
    have HKK2 := Lib.hid hk2; clear hk2
    go_wp2_with (first | (fail))
    (with_reducible refine C2.out.mono ?_)
    cases r2 with
    | error c =>
      rintro e Y2 ⟨rfl, hm2⟩
      refine ⟨rfl, ?_⟩
      have hk := HKK2.out
      simp only [bR_err] at hk
      rw [← hk]
      exact ⟨rfl, HL1.out.goneR hm2⟩
    | ok v2 =>
      obtain ⟨x2, b2⟩ := v2
      rintro e Y2 ⟨u2, rfl, rfl, hb2, hm2⟩
      have HH2 := Lib.hid (HL1.out.read hb2 hm2 (rNum_at EE2.out))
      have hk2 := HKK2.out
      simp only [bR_ok] at hk2
      have HK2 := Lib.hid hk2
      clear hb2 hm2 hk2 C2 HKK2 
      have hby := rNum_byte EE2.out
      have hw2 : x2 % 256 = x2 := by omega
      have c3 : Y2.cell? ⟨P, 7, none⟩ = some (.int .u8 (p.code)) := HH2.out.pB.cell 7
      have f3 := HH2.out.pB.frozen 7
      obtain ⟨q3, eq3⟩ : ∃ q : Pk, { p with code := x2 } = q := ⟨_, rfl⟩
      obtain ⟨Z3, z3⟩ : ∃ Z, Y2.setCell ⟨P, 7, none⟩ (.int .u8 (x2)) = Z := ⟨_, rfl⟩
      have hh3 := HH2.out.set 7 (.int .u8 (x2)) ({ p with code := x2 }) (m) rfl ⟨HH2.out.o.ps, HH2.out.o.wps, HH2.out.o.cs, HH2.out.o.ss, HH2.out.o.fs⟩
      rw [z3, eq3] at hh3
      have HH3 := Lib.hid hh3
      have EQ3 := Lib.hid eq3
      clear hh3 eq3
      have hk4 := HK2.out
      rw [show ({ p with code := x2 } : Pk) = q3 from by rw [← EQ3.out]] at hk4
      have HK4 := Lib.hid hk4
      clear hk4
      have hkp := HK4.out
      unfold rEndP at hkp
      have HKP5 := Lib.hid hkp; clear hkp
      have CL6 := Lib.hid (left_any R s b2 Z3 HH3.out.rB)
      go_wp2_with fail
      (with_reducible refine CL6.out.mono ?_)
      rintro e Y6 ⟨rfl, hb6, hh6⟩
      have HL6 := Lib.hid (HH3.out.heap hb6)
      clear hb6 hh6 CL6 c3 f3 z3
      by_cases hl6 : b2 < (s.size : Int)
      · have hd6 : decide (b2 < (s.size : Int)) = true := by simp [hl6]
        rw [hd6]
        have hk6 := HKP5.out
        rw [if_pos hl6] at hk6
        have HKY6 := Lib.hid hk6; clear hk6
        have l7 : Y6.cell? ⟨P, 0, none⟩ = some (.int .i64 (q3.kind)) := HL6.out.pB.cell 0
        obtain ⟨r8, e8⟩ : ∃ r, rProps q3.kind s b2 = r := ⟨_, rfl⟩
        have C8 := Lib.hid (rprops_any R s b2 q3.kind Y6 HL6.out.rB HL6.out.sz HL6.out.a0 HL6.out.a1 HL6.out.tb)
        rw [e8] at C8
        have hk8 := HKY6.out
        rw [e8] at hk8
        have EE8 := Lib.hid e8
        clear e8
        have HKK8 := Lib.hid hk8; clear hk8
        go_wp2_with (first | (fail))
        (with_reducible refine C8.out.mono ?_)
        cases r8 with
        | error c =>
          rintro e Y8 ⟨rfl, hm8⟩
          refine ⟨rfl, ?_⟩
          have hk := HKK8.out
          simp only [bR_err] at hk
          rw [← hk]
          exact ⟨rfl, HL6.out.goneR hm8⟩
        | ok v8 =>
          obtain ⟨x8, b8⟩ := v8
          rintro e Y8 ⟨u8, rfl, hps8, hb8, hm8⟩
          have HH8 := Lib.hid (HL6.out.read hb8 hm8 (rProps_at EE8.out HL6.out.a0))
          have hk8 := HKK8.out
          simp only [bR_ok] at hk8
          have HK8 := Lib.hid hk8
          obtain ⟨ao8, cp8, rfl, -⟩ := hps8.form
          have HS8 := Lib.hid (hps8.mono' HL6.out.md.size)
          clear hps8
          clear hb8 hm8 hk8 C8 HKK8 l7
          have c9 : Y8.cell? ⟨P, 9, none⟩ = some (.slice m.p.A m.p.n m.p.cap) := HH8.out.pB.cell 9
          have f9 := HH8.out.pB.frozen 9
          obtain ⟨q9, eq9⟩ : ∃ q : Pk, { q3 with ps := x8 } = q := ⟨_, rfl⟩
          obtain ⟨Z9, z9⟩ : ∃ Z, Y8.setCell ⟨P, 9, none⟩ (.slice ao8 x8.length cp8) = Z := ⟨_, rfl⟩
          have hh9 := HH8.out.set 9 (.slice ao8 x8.length cp8) ({ q3 with ps := x8 }) ({ m with p := ⟨ao8, x8.length, cp8⟩ }) rfl ⟨HS8.out, HH8.out.o.wps, HH8.out.o.cs, HH8.out.o.ss, HH8.out.o.fs⟩
          obtain ⟨M9, em9⟩ : ∃ M : Hs, { m with p := ⟨ao8, x8.length, cp8⟩ } = M := ⟨_, rfl⟩
          rw [z9, eq9, em9] at hh9
          clear em9
          have HH9 := Lib.hid hh9
          have EQ9 := Lib.hid eq9
          clear hh9 eq9
          have hk10 := HK8.out
          rw [show ({ q3 with ps := x8 } : Pk) = q9 from by rw [← EQ9.out]] at hk10
          have HK10 := Lib.hid hk10
          clear hk10
          go_wp2
          go_end0
          have hk := HK10.out
          rw [← hk]
          exact ⟨rfl, _, HH9.out⟩
      · have hd6 : decide (b2 < (s.size : Int)) = false := by simp [hl6]
        rw [hd6]
        have hk6 := HKP5.out
        rw [if_neg hl6] at hk6
        have HKY6 := Lib.hid hk6; clear hk6
        go_wp2
        go_end0
        have hk := HKY6.out
        rw [← hk]
        exact ⟨rfl, _, HL6.out⟩
  · have hd1 : decide (a < (s.size : Int)) = false := by simp [hl1]
    rw [hd1]
    have hk1 := HK0.out
    rw [if_neg hl1] at hk1
    have HKY1 := Lib.hid hk1; clear hk1
    have hkp := HKY1.out
    unfold rEndP at hkp
    have HKP11 := Lib.hid hkp; clear hkp
    have CL12 := Lib.hid (left_any R s a Y1 HL1.out.rB)
    go_wp2_with fail
    (with_reducible refine CL12.out.mono ?_)
    rintro e Y12 ⟨rfl, hb12, hh12⟩
    have HL12 := Lib.hid (HL1.out.heap hb12)
    clear hb12 hh12 CL12 
    by_cases hl12 : a < (s.size : Int)
    · have hd12 : decide (a < (s.size : Int)) = true := by simp [hl12]
      rw [hd12]
      have hk12 := HKP11.out
      exact absurd hl12 (Int.not_lt.2 hl1)
    · have hd12 : decide (a < (s.size : Int)) = false := by simp [hl12]
      rw [hd12]
      have hk12 := HKP11.out
      rw [if_neg hl12] at hk12
      have HKY12 := Lib.hid hk12; clear hk12
      go_wp2
      go_end0
      have hk := HKY12.out
      rw [← hk]
      exact ⟨rfl, _, HL12.out⟩
end Go.Proofs.YtedapgeabpadaaaDoor

