/- The document's Learn. -/
import Derived.Test.YtenoaonlngndpaaDoorH2P8
namespace Go.Proofs.YtenoaonlngndpaaDoor
set_option linter.unusedVariables false
set_option linter.unusedSimpArgs false
open Go.RowKit Go.Maps Pl Go.Shelf

/-- An advert with its slices. -/
abbrev Ent := Ad × Value × Value
def entA (e : Ent) : Array Value := #[.int .i64 e.1.owner, .int .i64 e.1.version, e.2.1, e.2.2]
def entC (e : Ent) : List Value := [.int .i64 e.1.owner, .int .i64 e.1.version, e.2.1, e.2.2]
def nil0 : Value := .slice none 0 0
def zEnt : Ent := (zAd, nil0, nil0)
structure DbAt (B bp : Nat) (E : List Ent) (w : World) : Prop where
  hb : B ≤ bp
  ex : ∃ v, Blk w bp #[v] 63 ∧ Sl B w 69 4 v E.length (E.flatMap entC)
  ads : ∀ e ∈ E, AdAt B w 86 e.1 e.2.1 e.2.2
  ok : ∀ e ∈ E, goodA e.1 = true
theorem DbAt.below {B bp : Nat} {E : List Ent} {w w' : World} (h : DbAt B bp E w) (m : Below w.heap.size w w') : DbAt B bp E w' := by
  obtain ⟨v, h1, h2⟩ := h.ex
  exact ⟨h.hb, ⟨v, h1.of_below m, h2.below m⟩, fun e he => (h.ads e he).below m, h.ok⟩
theorem DbAt.lt {B bp : Nat} {E : List Ent} {w : World} (h : DbAt B bp E w) : bp < w.heap.size := by
  obtain ⟨v, h1, h2⟩ := h.ex
  exact h1.lt
theorem DbAt.sz {B bp : Nat} {E : List Ent} {w : World} (h : DbAt B bp E w) : B ≤ w.heap.size := by
  have := h.hb; have := h.lt; omega
/-! plain -/
def ofE (E : List Ent) (x : Int) : Option Ent := E.find? fun e => decide (e.1.owner = x)
theorem ofE_snoc (E : List Ent) (y : Ent) (x : Int) : ofE (E ++ [y]) x = (ofE E x).or (if y.1.owner = x then some y else none) := by
  unfold ofE
  rw [List.find?_append]
  by_cases h : y.1.owner = x <;> simp [h]
def lstep (a : Ent) (s : List Ent × Bool) (x : Ent) : List Ent × Bool :=
  let s1 := if s.2 = false ∧ a.1.owner ≤ x.1.owner then (s.1 ++ [a], true) else s
  if x.1.owner = a.1.owner then s1 else (s1.1 ++ [x], s1.2)
def lrun (a : Ent) (E : List Ent) : List Ent := let s := E.foldl (lstep a) ([], false); if s.2 = true then s.1 else s.1 ++ [a]
structure LsInv (a : Ent) (P : List Ent) (s : List Ent × Bool) : Prop where
  oth : ∀ x, x ≠ a.1.owner → ofE s.1 x = ofE P x
  own : ofE s.1 a.1.owner = if s.2 = true then some a else none
  len : s.1.length ≤ P.length + (if s.2 = true then 1 else 0)
  mem : ∀ e ∈ s.1, e = a ∨ e ∈ P
theorem LsInv.start (a : Ent) : LsInv a [] ([], false) := ⟨fun _ _ => rfl, rfl, by simp, fun e h => by cases h⟩
theorem LsInv.put {a : Ent} {P : List Ent} {l : List Ent} (h : LsInv a P (l, false)) : LsInv a P (l ++ [a], true) := by
  refine ⟨fun x hx => ?_, ?_, ?_, fun e he => ?_⟩
  · simp only; rw [ofE_snoc, if_neg (fun c => hx c.symm), Option.or_none]; exact h.oth x hx
  · simp only; rw [ofE_snoc, if_pos rfl]; have := h.own; simp only at this; rw [this]; rfl
  · have := h.len; simp at this ⊢; omega
  · simp only at he
    rcases List.mem_append.1 he with c | c
    · exact h.mem e c
    · exact .inl (List.mem_singleton.1 c)
theorem LsInv.skip {a x : Ent} {P : List Ent} {s : List Ent × Bool} (h : LsInv a P s) (hx : x.1.owner = a.1.owner) : LsInv a (P ++ [x]) s := by
  refine ⟨fun y hy => ?_, h.own, by have := h.len; simp at this ⊢; omega, fun e he => ?_⟩
  · rw [ofE_snoc, if_neg (fun c => hy (c.symm.trans hx)), Option.or_none]; exact h.oth y hy
  · rcases h.mem e he with c | c
    · exact .inl c
    · exact .inr (List.mem_append_left _ c)
theorem LsInv.add {a x : Ent} {P : List Ent} {s : List Ent × Bool} (h : LsInv a P s) (hx : x.1.owner ≠ a.1.owner) : LsInv a (P ++ [x]) (s.1 ++ [x], s.2) := by
  refine ⟨fun y hy => ?_, ?_, by have := h.len; simp at this ⊢; omega, fun e he => ?_⟩
  · simp only; rw [ofE_snoc, ofE_snoc, h.oth y hy]
  · simp only; rw [ofE_snoc, if_neg hx, Option.or_none]; exact h.own
  · simp only at he
    rcases List.mem_append.1 he with c | c
    · rcases h.mem e c with c | c
      · exact .inl c
      · exact .inr (List.mem_append_left _ c)
    · obtain rfl := List.mem_singleton.1 c; exact .inr (List.mem_append_right _ (List.mem_singleton.2 rfl))
theorem LsInv.step {a x : Ent} {P : List Ent} {s : List Ent × Bool} (h : LsInv a P s) : LsInv a (P ++ [x]) (lstep a s x) := by
  obtain ⟨l, b⟩ := s
  unfold lstep
  simp only
  have h1 : LsInv a P (if b = false ∧ a.1.owner ≤ x.1.owner then (l ++ [a], true) else (l, b)) := by
    split
    · rename_i c; obtain ⟨rfl, -⟩ := c; exact h.put
    · exact h
  split
  · rename_i c; exact h1.skip c
  · rename_i c; exact h1.add c
theorem lsInv (a : Ent) (E : List Ent) : ∀ k, LsInv a (E.take k) ((E.take k).foldl (lstep a) ([], false))
  | 0 => LsInv.start a
  | k + 1 => by
    rw [List.take_add_one]
    cases hk : E[k]? with
    | none => simp only [Option.toList_none, List.append_nil]; exact lsInv a E k
    | some x => simp only [Option.toList_some, List.foldl_append, List.foldl_cons, List.foldl_nil]; exact (lsInv a E k).step
theorem fold_take {a x : Ent} {E : List Ent} {k : Nat} (h : E[k]? = some x) : (E.take (k + 1)).foldl (lstep a) ([], false) = lstep a ((E.take k).foldl (lstep a) ([], false)) x := by
  rw [List.take_add_one, h]
  simp only [Option.toList_some, List.foldl_append, List.foldl_cons, List.foldl_nil]
theorem lsInvE (a : Ent) (E : List Ent) : LsInv a E (E.foldl (lstep a) ([], false)) := by
  have := lsInv a E E.length
  rwa [List.take_length] at this
theorem ofE_lrun (a : Ent) (E : List Ent) (x : Int) : ofE (lrun a E) x = if x = a.1.owner then some a else ofE E x := by
  have h := lsInvE a E
  unfold lrun
  generalize E.foldl (lstep a) ([], false) = s at h ⊢
  obtain ⟨l, b⟩ := s
  simp only at h ⊢
  cases b
  · have h2 := h.put
    simp only [Bool.false_eq_true, if_false]
    by_cases e : x = a.1.owner
    · rw [if_pos e, e]; exact h2.own
    · rw [if_neg e]; exact h2.oth x e
  · simp only [if_true]
    by_cases e : x = a.1.owner
    · rw [if_pos e, e]; exact h.own
    · rw [if_neg e]; exact h.oth x e
theorem lrun_mem {a : Ent} {E : List Ent} {e : Ent} (he : e ∈ lrun a E) : e = a ∨ e ∈ E := by
  have h := lsInvE a E
  unfold lrun at he
  generalize E.foldl (lstep a) ([], false) = s at h he
  obtain ⟨l, b⟩ := s
  simp only at h he
  cases b
  · simp only [Bool.false_eq_true, if_false] at he; exact h.put.mem e he
  · simp only [if_true] at he; exact h.mem e he
theorem lrun_len (a : Ent) (E : List Ent) : (lrun a E).length ≤ E.length + 1 := by
  have h := lsInvE a E
  unfold lrun
  generalize E.foldl (lstep a) ([], false) = s at h ⊢
  obtain ⟨l, b⟩ := s
  simp only at h ⊢
  cases b
  · simp only [Bool.false_eq_true, if_false]; have := h.put.len; simpa using this
  · simp only [if_true]; have := h.len; simpa using this
/-- What both bases hold is the same. -/
def Rep (K : Kb) (E : List Ent) : Prop := ∀ x, K x = (ofE E x).map (·.1)
theorem Rep.learn {K : Kb} {E : List Ent} {a : Ent} (h : Rep K E) (hg : goodA a.1 = true ∧ verOf K a.1.owner < a.1.version) : Rep (Pl.learn K a.1) (lrun a E) := by
  intro x
  rw [ofE_lrun]
  unfold Pl.learn
  rw [if_pos hg]
  by_cases e : x = a.1.owner
  · rw [if_pos e, if_pos e]; rfl
  · rw [if_neg e, if_neg e]; exact h x
theorem entC_len (e : Ent) : (entC e).length = 4 := rfl
theorem ent_cells {w : World} {B : Nat} {E : List Ent} {ao : Option Addr} {cap : Nat} (h : Sl B w 69 4 (.slice ao E.length cap) E.length (E.flatMap entC)) {i : Nat} {x : Ent} (hi : E[i]? = some x) :
    ∃ g o, ao = some ⟨g, o, none⟩ ∧ g < w.heap.size ∧ w.cell? ⟨g, o + i * 4, none⟩ = some (.int .i64 x.1.owner) ∧ w.cell? ⟨g, o + i * 4 + 1, none⟩ = some (.int .i64 x.1.version) ∧ w.cell? ⟨g, o + i * 4 + 2, none⟩ = some x.2.1 ∧ w.cell? ⟨g, o + i * 4 + 3, none⟩ = some x.2.2 := by
  have hlt := getElem?_lt hi
  obtain ⟨g, o, cap, e, -, hg, -, -, hc⟩ := h.at (by omega)
  cases e
  have f := fun j u (hu : (entC x)[j]? = some u) => hc _ _ (flat_get entC 4 (fun _ => rfl) E i x hi j u hu)
  exact ⟨g, o, rfl, hg, f 0 _ rfl, f 1 _ rfl, f 2 _ rfl, f 3 _ rfl⟩
theorem ofE_take_none {E : List Ent} {x : Int} {k : Nat} {y : Ent} (h : ofE (E.take k) x = none) (hy : E[k]? = some y) (hn : y.1.owner ≠ x) : ofE (E.take (k + 1)) x = none := by
  rw [List.take_add_one, hy]
  show ofE (E.take k ++ [y]) x = none
  rw [ofE_snoc, h, if_neg hn]; rfl
theorem ofE_take_some {E : List Ent} {x : Int} {k : Nat} {y : Ent} (h : ofE (E.take k) x = none) (hy : E[k]? = some y) (hn : y.1.owner = x) : ofE E x = some y := by
  have hlt := getElem?_lt hy
  have h1 : ofE (E.take (k + 1)) x = some y := by
    rw [List.take_add_one, hy]
    show ofE (E.take k ++ [y]) x = some y
    rw [ofE_snoc, h, if_pos hn]; rfl
  have h2 : E = E.take (k + 1) ++ E.drop (k + 1) := (List.take_append_drop _ _).symm
  unfold ofE at h1 ⊢
  rw [h2, List.find?_append, h1]; rfl
theorem zAdA_one : zAdA.all (·.oneCell') = true := by simp [zAdA]; simp [Value.oneCell']
/-- What the document's Of comes to. -/
def DofPost (E : List Ent) (x : Int) (w : World) (e : Ending) (w' : World) : Prop := e = .returned (.tuple #[.agg (entA ((ofE E x).getD zEnt)), .bool (ofE E x).isSome]) ∧ Below w.heap.size w w'
theorem dofPost_mk {E : List Ent} {x : Int} {w w' : World} {o : Option Ent} (h : ofE E x = o) (hb : Below w.heap.size w w') : DofPost E x w (.returned (.tuple #[.agg (entA (o.getD zEnt)), .bool o.isSome])) w' := by
  subst h
  exact ⟨rfl, hb⟩
set_option maxHeartbeats 2000000 in
set_option maxRecDepth 100000 in
theorem dof_any (B bp : Nat) (E : List Ent) (x : Int) (w : World) (h : DbAt B bp E w) (hE : E.length ≤ 1000) :
    Calls Tryd.prog 22 #[.pointer (some ⟨bp, 0, none⟩), .int .i64 x] w (DofPost E x w) := by
  have hY := (Below.refl w.heap.size w).alloc (Nat.le_refl _) (.cells zAdA 69)
  have hk := blk_at w zAdA 69 rfl
  obtain ⟨Y, hYe⟩ : ∃ Y, w.alloc (.cells zAdA 69) = Y := ⟨_, rfl⟩
  rw [hYe] at hY hk
  have HK := Lib.hid hk
  have HB := Lib.hid hY
  obtain ⟨v, hv1, hv2⟩ := (h.below hY).ex
  have hads := fun e he => ((h.below hY).ads e he)
  obtain ⟨ao, cap, rfl, q1, q2, -⟩ := hv2.form
  have c0 := hv1.cell 0
  simp only [List.getElem?_toArray, List.getElem?_cons_zero] at c0
  have C0 := Lib.hid c0
  have HS := Lib.hid hv2
  have HA := Lib.hid hads
  unfold maxLen at q2
  unfold zAdA at hYe
  have HE := Lib.hid hYe
  clear hY hk h hv1 hv2 hads hYe
  go_enter Tryd.func22, Tryd.ntmps22
  go_wp2_with (first | (rw [HE.out]) | fail)
  clear c0
  go_loopw [6] (fun i wr => ∃ (k : Nat), i = .int .i64 k ∧ k ≤ E.length ∧ Hid (ofE (E.take k) x = none) ∧ Hid (Y = wr)) (fun i _ => E.length - (intOf i).toNat)
  case atStart => exact ⟨0, rfl, Nat.zero_le _, Lib.hid rfl, Lib.hid rfl⟩
  case round =>
    obtain ⟨k, rfl, hk, hN, hW⟩ := hrel
    obtain rfl := hW.out
    have c0 := C0.out
    by_cases hlt : k < E.length
    · have hkM : (k : Int) < (E.length : Int) := by omega
      obtain ⟨y, hy⟩ : ∃ y, E[k]? = some y := ⟨_, List.getElem?_eq_getElem (by omega)⟩
      obtain ⟨g, o, rfl, hg, m0, m1, m2, m3⟩ := ent_cells HS.out hy
      have hya := HA.out y (List.mem_of_getElem? hy)
      have hy := Lib.hid hy
      obtain ⟨a, vf, vl⟩ := y
      simp only at m0 m1 m2 m3 hya
      have HO := Lib.hid (ad_one hya)
      obtain ⟨af, cf, rfl, -, -, -⟩ := hya.fs.form
      obtain ⟨al, cl, rfl, -, -, -⟩ := hya.ls.form
      clear hya hg
      by_cases hx : a.owner = x
      · have hF := Lib.hid (ofE_take_some hN.out hy.out hx)
        have HX := Lib.hid hx
        have d1 : (a.owner == x) = true := by simpa using hx
        clear hx
        go_wp2_with (first | (refine wpList_store_rowTo rfl 69 (.tmp 4) (.tmp 32) rfl rfl w.heap.size (adA a (.slice af a.fs.length cf) (.slice al a.ls.length cl)) rfl rfl 69 zAdA HK.out rad_size rfl HO.out ?_) | (fail))
        refine bodyPost_ret (v := .tuple #[.agg (adA a (.slice af a.fs.length cf) (.slice al a.ls.length cl)), .bool true]) (results_row_tmp (t1 := 4) (t2 := 5) (ty1 := 69) (by kernel_rfl) _ _ w.heap.size 69 _ _ _ rfl rfl HK.out.setRow Tryd.underlying69 rfl rad_size) rfl ?_
        exact dofPost_mk hF.out (below_setRow HB.out (Nat.le_refl _) _)
      · have d1 : (a.owner == x) = false := beq_eq_false_iff_ne.2 hx
        have hF := Lib.hid (ofE_take_none hN.out hy.out hx)
        go_wp2_with fail
        go_roundw
        case rel => exact ⟨k + 1, by go_num, by omega, hF, Lib.hid trivial⟩
        case measure => simp [intOf]; omega
    · obtain rfl : k = E.length := by omega
      have hF := Lib.hid (show ofE E x = none by have := hN.out; rwa [List.take_length] at this)
      go_wp2_with (first | (refine wpList_store_rowTo rfl 69 (.tmp 4) (.tmp 33) rfl rfl w.heap.size zAdA rfl rfl 69 zAdA HK.out rad_size rfl zAdA_one ?_) | (fail))
      refine bodyPost_ret (v := .tuple #[.agg zAdA, .bool false]) (results_row_tmp (t1 := 4) (t2 := 5) (ty1 := 69) (by kernel_rfl) _ _ w.heap.size 69 _ _ _ rfl rfl HK.out.setRow Tryd.underlying69 rfl rad_size) rfl ?_
      exact dofPost_mk hF.out (below_setRow HB.out (Nat.le_refl _) _)
end Go.Proofs.YtenoaonlngndpaaDoor
namespace Go.Proofs.YtenoaonlngndpaaDoor
set_option linter.unusedVariables false
set_option linter.unusedSimpArgs false
open Go.RowKit Go.Maps Pl Go.Shelf

theorem info_rad : (Tryd.prog.info? 69).map (fun i => (i.zero, i.size, i.bytes)) = some (some (.agg #[.int .i64 0, .int .i64 0, .slice none 0 0, .slice none 0 0]), 4, 64) := by kernel_rfl
theorem entC_one {e : Ent} (h : e.2.1.oneCell' = true ∧ e.2.2.oneCell' = true) : ∀ u ∈ (entA e).toList, u.oneCell' = true := by
  intro u hu
  simp [entA] at hu
  rcases hu with rfl | rfl | rfl | rfl
  · rfl
  · rfl
  · exact h.1
  · exact h.2
theorem wpList_ent {ops : Array Oper} {rest : List Oper} {o : Oper} {a : Act} {w : World} {Q : Exit → Act → World → Prop} (s x : Operand) (B n : Nat) (v : Value) (l : List Ent) (q : Ent) (b : Nat) (hgd : o.guard = none) (ho : o.op = .call { callee := .builtin .append, args := #[s, x], argTypes := #[61, 61] })
    (hs : a.eval s = v) (hx : a.eval x = .slice (some ⟨b, 0, none⟩) 1 1) (h : Sl B w 69 4 v n (l.flatMap entC)) (hb : Blk w b (entA q) 69) (hB : B ≤ w.heap.size) (hl : n ≤ 1048576 ∧ q.2.1.oneCell' = true ∧ q.2.2.oneCell' = true)
    (hK : ∀ v' w', Sl B w' 69 4 v' (n + 1) ((l ++ [q]).flatMap entC) → w.grownBy w' v.ownBlock → (v'.ownBlock = v.ownBlock ∨ v'.ownBlock = some w.heap.size) → wpList Tryd.prog ops Q rest (a.put o.dst v') w') :
    wpList Tryd.prog ops Q (o :: rest) a w := by
  obtain ⟨i1, hi1, hi1z, hi1s, hi1b⟩ := made_parts info_rad
  refine wpList_append_sl s x 61 i1 _ _ b (entA q) hgd ho Tryd.underlying61 hi1 hi1z hi1s hi1b rfl (by decide) rfl (entC_one hl.2) hs hx h hb hB (by unfold maxLen; omega) (by omega) ?_
  intro v' w' r1 r2 r3
  exact hK v' w' (by rw [flat_snoc]; exact r1) r2 r3
theorem Sl.base {B B' n size : Nat} {w : World} {e : TypeId} {v : Value} {xs : List Value} (h : Sl B w e size v n xs) (hb : ∀ g, v.ownBlock = some g → B' ≤ g) : Sl B' w e size v n xs := by
  refine ⟨h.1, ?_⟩
  rcases h.2 with c | ⟨g, o, cap, cur, rfl, h2, r⟩
  · exact .inl c
  · exact .inr ⟨g, o, cap, cur, rfl, hb g rfl, r⟩
theorem Rep.ver {K : Kb} {E : List Ent} (h : Rep K E) (x : Int) : verOf K x = ((ofE E x).getD zEnt).1.version := by
  unfold verOf
  rw [h x]
  cases ofE E x <;> rfl
/-- What the document's Learn comes to. -/
def DlrnPost (B bp n : Nat) (K : Kb) (a : Ad) (w : World) (e : Ending) (w' : World) : Prop := ∃ (b : Bool) (c : Int) (E : List Ent), e = .returned (.tuple #[.bool b, .int .i64 c]) ∧ Rep (Pl.learn K a) E ∧ E.length ≤ n + 1 ∧ DbAt B bp E w' ∧ Fr B (mapS bp) w w'
theorem dlrnPost_mk {B bp n : Nat} {K K' : Kb} {a : Ad} {w w' : World} {b : Bool} {c : Int} {E : List Ent} (hK : Pl.learn K a = K') (hR : Rep K' E) (hl : E.length ≤ n + 1) (h : DbAt B bp E w') (hf : Fr B (mapS bp) w w') : DlrnPost B bp n K a w (.returned (.tuple #[.bool b, .int .i64 c])) w' := by
  subst hK
  exact ⟨b, c, E, rfl, hR, hl, h, hf⟩
/-- The field is set. -/
theorem dlearn_end {B bp : Nat} {E : List Ent} {a : Ent} {v : Value} {w wr : World} (h : DbAt B bp E w) (hb : Below w.heap.size w wr) (ha : AdAt B w 86 a.1 a.2.1 a.2.2) (hg : goodA a.1 = true) (ho : Sl (w.heap.size + 1) wr 69 4 v (lrun a E).length ((lrun a E).flatMap entC)) :
    DbAt B bp (lrun a E) (wr.setCell ⟨bp, 0, none⟩ v) ∧ Fr B (mapS bp) w (wr.setCell ⟨bp, 0, none⟩ v) := by
  have hlt := h.lt
  have hbp := h.hb
  obtain ⟨v0, e1, -⟩ := h.ex
  have e1 := e1.of_below hb
  have nb : ∀ g, v.ownBlock = some g → g ≠ bp := fun g hg c => by have := (ho.lt g hg).1; omega
  have ad : ∀ {x : Ad} {vf vl : Value}, AdAt B w 86 x vf vl → AdAt B (wr.setCell ⟨bp, 0, none⟩ v) 86 x vf vl := fun had => by
    have h2 := had.below hb
    exact ⟨h2.fs.set 0 v (h2.fs.ne e1 (by decide)), h2.ls.set 0 v (h2.ls.ne e1 (by decide))⟩
  refine ⟨⟨hbp, ⟨v, ?_, ?_⟩, fun e he => ?_, fun e he => ?_⟩, ⟨?_, ?_⟩⟩
  · have := e1.set 0 v; simpa using this
  · exact (ho.set 0 v (fun c => nb _ c rfl)).base (fun g hg => by have := (ho.lt g hg).1; have := h.sz; omega)
  · rcases lrun_mem he with rfl | c
    · exact ad ha
    · exact ad (h.ads e c)
  · rcases lrun_mem he with rfl | c
    · exact hg
    · exact h.ok e c
  · exact ((hb.mono h.sz).setCell hbp v)
  · intro k obj hk hs
    have hkl := heap_lt hk
    exact (Below.heap_setCell _ _ _ _ (fun c => hs (by unfold mapS; exact c))).trans ((hb.block k hkl).trans hk)

set_option maxHeartbeats 8000000 in
set_option maxRecDepth 100000 in
theorem dlearn_any (B bp : Nat) (E : List Ent) (K : Kb) (a : Ad) (vf vl : Value) (w : World) (h : DbAt B bp E w) (hR : Rep K E) (hE : E.length ≤ 900) (had : AdAt B w 86 a vf vl) (hfit : a.fits) :
    Calls Tryd.prog 20 #[.pointer (some ⟨bp, 0, none⟩), .agg (adA a vf vl)] w (DlrnPost B bp E.length K a w) := by
  have hY := (Below.refl w.heap.size w).alloc (Nat.le_refl _) (.cells (adA a vf vl) 69)
  have hk := blk_at w (adA a vf vl) 69 rfl
  obtain ⟨Y, hYe⟩ : ∃ Y, w.alloc (.cells (adA a vf vl) 69) = Y := ⟨_, rfl⟩
  rw [hYe] at hY hk
  have HE := Lib.hid hYe
  have HB := Lib.hid hY
  have HD := Lib.hid h
  have HR := Lib.hid hR
  have HAD := Lib.hid had
  have HBK := Lib.hid hk
  have CG := Lib.hid (dgood_any B a vf vl Y (had.below hY) hfit)
  have hwY : w.heap.size < Y.heap.size := hk.lt
  obtain ⟨af, cf, rfl, -, -, -⟩ := had.fs.form
  obtain ⟨al, cl, rfl, -, -, -⟩ := had.ls.form
  unfold adA at HE ⊢
  clear hY hk hYe h had hR hfit
  cases hg : goodA a
  · have HG := Lib.hid hg
    have HX := Lib.hid (learn_no (K := K) (a := a) (by rw [hg]; simp))
    rw [hg] at CG
    clear hg
    go_enter Tryd.func20, Tryd.ntmps20
    go_wp2_with (first | (rw [HE.out]) | (refine wpList_load_row rfl 69 (.tmp 3) rfl w.heap.size rfl 69 _ (0, 0) _ HBK.out Tryd.underlying69 rfl rad_size ?_) | (go_at_call 40; (with_reducible refine CG.out.mono ?_); rintro e w1 ⟨rfl, b1⟩; have HB1 := Lib.hid (HB.out.trans (b1.mono HB.out.size)); clear b1) | (fail))
    go_ret2
    exact dlrnPost_mk HX.out HR.out (by omega) (HD.out.below HB1.out) (Fr.of_below HB1.out HD.out.sz)
  have HG := Lib.hid hg
  rw [hg] at CG
  clear hg
  go_enter Tryd.func20, Tryd.ntmps20
  go_wp2_with (first | (rw [HE.out]) | (refine wpList_load_row rfl 69 (.tmp 3) rfl w.heap.size rfl 69 _ (0, 0) _ HBK.out Tryd.underlying69 rfl rad_size ?_) | (fail))
  refine CG.out.mono ?_
  rintro e w1 ⟨rfl, b1⟩
  have HB1 := Lib.hid (HB.out.trans (b1.mono HB.out.size))
  have HBK1 := Lib.hid (HBK.out.of_below b1)
  have CO := Lib.hid (dof_any B bp E a.owner w1 (HD.out.below HB1.out) (by omega))
  have k0 := HBK1.out.cell 0
  simp only [adA, List.getElem?_toArray, List.getElem?_cons_zero, List.getElem?_cons_succ] at k0
  clear b1 CG HB HBK
  go_wp2_with fail
  refine CO.out.mono ?_
  rintro e w2 ⟨rfl, b2⟩
  have HB2 := Lib.hid (HB1.out.trans (b2.mono HB1.out.size))
  have HBK2 := Lib.hid (HBK1.out.of_below b2)
  have hv := HR.out.ver a.owner
  obtain ⟨⟨od, of', ol⟩, ho⟩ : ∃ y, (ofE E a.owner).getD zEnt = y := ⟨_, rfl⟩
  obtain ⟨was, hwas⟩ : ∃ y, (ofE E a.owner).isSome = y := ⟨_, rfl⟩
  rw [ho] at hv ⊢
  rw [hwas]
  unfold entA
  simp only at hv ⊢
  have HONE : ∃ x1 x2 x3 y1 y2 y3, of' = .slice x1 x2 x3 ∧ ol = .slice y1 y2 y3 := by
    have hm := HD.out.ads
    cases hO : ofE E a.owner with
    | none => rw [hO] at ho; injection ho with _ c; injection c with c1 c2; subst c1; subst c2; exact ⟨_, _, _, _, _, _, rfl, rfl⟩
    | some y =>
      rw [hO] at ho
      simp only [Option.getD_some] at ho
      have := hm y (List.mem_of_find?_eq_some hO)
      rw [ho] at this
      obtain ⟨_, _, e1, -⟩ := this.fs.form
      obtain ⟨_, _, e2, -⟩ := this.ls.form
      exact ⟨_, _, _, _, _, _, e1, e2⟩
  obtain ⟨x1', x2', x3', y1', y2', y3', rfl, rfl⟩ := HONE
  have bX := (Below.refl w2.heap.size w2).alloc (Nat.le_refl _) (.cells #[.int .i64 od.owner, .int .i64 od.version, (.slice x1' x2' x3'), (.slice y1' y2' y3')] 69)
  have kX := blk_at w2 #[.int .i64 od.owner, .int .i64 od.version, (.slice x1' x2' x3'), (.slice y1' y2' y3')] 69 rfl
  obtain ⟨X, hX⟩ : ∃ X, w2.alloc (.cells #[.int .i64 od.owner, .int .i64 od.version, (.slice x1' x2' x3'), (.slice y1' y2' y3')] 69) = X := ⟨_, rfl⟩
  rw [hX] at bX kX
  have HBX := Lib.hid (HB2.out.trans (bX.mono HB2.out.size))
  have HKX := Lib.hid (HBK2.out.of_below bX)
  have x1 := kX.cell 1
  have k1 := HKX.out.cell 1
  simp only [adA, List.getElem?_toArray, List.getElem?_cons_zero, List.getElem?_cons_succ] at x1 k1
  have HV := Lib.hid hv
  have hwX : w.heap.size < X.heap.size := HKX.out.lt
  have HZ0 : Hid (was = false → verOf K a.owner = 0) := Lib.hid (fun c => by
    rw [HR.out.ver]
    cases hO : ofE E a.owner with
    | none => rfl
    | some y => rw [hO] at hwas; rw [c] at hwas; cases hwas)
  have hgv : 0 < a.version := by
    have := HG.out
    unfold goodA at this
    simp only [Bool.and_eq_true, decide_eq_true_eq] at this
    omega
  clear b2 bX kX ho hwas hv CO k0
  obtain ⟨vb, hb1, hb2⟩ := HD.out.ex
  obtain ⟨ao, cap, rfl, q1, q2, -⟩ := hb2.form
  unfold maxLen at q2
  have HS := Lib.hid hb2
  have HB0 := Lib.hid hb1
  have C0 := Lib.hid (show w.cell? ⟨bp, 0, none⟩ = some (.slice ao E.length cap) from hb1.cell 0)
  have hbpw : bp < w.heap.size := HD.out.lt
  have cX := (HBX.out.cell (p := ⟨bp, 0, none⟩) hbpw).trans C0.out
  clear hb1 hb2
  cases was
  · have HYQS : Hid (goodA a = true ∧ verOf K a.owner < a.version) := Lib.hid ⟨HG.out, by rw [HZ0.out rfl]; exact hgv⟩
    go_wp2_with fail
    clear x1 k1 cX hX
    go_loopw [9, 10, 11] (fun v p i wr => ∃ (k : Nat) (pt : Bool) (out : List Ent), p = .bool pt ∧ i = .int .i64 k ∧ k ≤ E.length ∧ Hid ((E.take k).foldl (lstep (a, Value.slice af a.fs.length cf, Value.slice al a.ls.length cl)) ([], false) = (out, pt)) ∧ Hid (Sl (w.heap.size + 1) wr 69 4 v out.length (out.flatMap entC)) ∧ Hid (Blk wr w.heap.size (entA (a, Value.slice af a.fs.length cf, Value.slice al a.ls.length cl)) 69) ∧ Hid (Below w.heap.size w wr)) (fun _ _ i _ => E.length - (intOf i).toNat)
    case atStart => exact ⟨0, false, [], rfl, rfl, Nat.zero_le _, Lib.hid rfl, Lib.hid (Sl.nil _ _ _ _), HKX, HBX⟩
    case round =>
      obtain ⟨k, pt, out, rfl, rfl, hk, hS, hO, hK, hW⟩ := hrel
      have c0 := (hW.out.cell (p := ⟨bp, 0, none⟩) hbpw).trans C0.out
      have hlen : out.length ≤ 901 := by
        have := (lsInv (a, Value.slice af a.fs.length cf, Value.slice al a.ls.length cl) E k).len
        rw [hS.out] at this
        have h2 : (E.take k).length ≤ k := by rw [List.length_take]; omega
        simp only at this
        split at this <;> omega
      by_cases hlt : k < E.length
      · have hkM : (k : Int) < (E.length : Int) := by omega
        obtain ⟨ye, hy⟩ : ∃ y, E[k]? = some y := ⟨_, List.getElem?_eq_getElem (by omega)⟩
        obtain ⟨g, o, rfl, hg, m0, m1, m2, m3⟩ := ent_cells HS.out hy
        have m0 := (hW.out.cell (p := ⟨g, o + k * 4, none⟩) hg).trans m0
        have m1 := (hW.out.cell (p := ⟨g, o + k * 4 + 1, none⟩) hg).trans m1
        have m2 := (hW.out.cell (p := ⟨g, o + k * 4 + 2, none⟩) hg).trans m2
        have m3 := (hW.out.cell (p := ⟨g, o + k * 4 + 3, none⟩) hg).trans m3
        have hya := HD.out.ads ye (List.mem_of_getElem? hy)
        obtain ⟨y, wf, wl⟩ := ye
        simp only at m0 m1 m2 m3 hya
        obtain ⟨yf, df, rfl, -, -, -⟩ := hya.fs.form
        obtain ⟨yl, dl, rfl, -, -, -⟩ := hya.ls.form
        have hy := Lib.hid hy
        clear hya hg
        have bA := (Below.refl wr.heap.size wr).alloc (Nat.le_refl _) (.cells (entA (y, Value.slice yf y.fs.length df, Value.slice yl y.ls.length dl)) 69)
        have kA := blk_at wr (entA (y, Value.slice yf y.fs.length df, Value.slice yl y.ls.length dl)) 69 rfl
        obtain ⟨A1, hA1⟩ : ∃ A, wr.alloc (.cells (entA (y, Value.slice yf y.fs.length df, Value.slice yl y.ls.length dl)) 69) = A := ⟨_, rfl⟩
        rw [hA1] at bA kA
        have HO1 := Lib.hid (hO.out.below bA)
        have HK1 := Lib.hid (hK.out.of_below bA)
        have HW1 := Lib.hid (hW.out.trans (bA.mono hW.out.size))
        have HZ1 := Lib.hid kA
        have j0 := HK1.out.cell 0
        have z0 := kA.cell 0
        have hww : w.heap.size ≤ wr.heap.size := hW.out.size
        have hwne : wr.heap.size ≠ w.heap.size := by have := hK.out.lt; omega
        have NB : Hid (∀ v n xs, Sl (w.heap.size + 1) wr 69 4 v n xs → v.ownBlock ≠ some wr.heap.size) := Lib.hid (fun v n xs h c => by have := (h.lt _ c).2; omega)
        have HNV := Lib.hid (NB.out _ _ _ hO.out)
        simp only [entA, List.getElem?_toArray, List.getElem?_cons_zero, List.getElem?_cons_succ] at j0 z0 hA1
        clear bA kA hO hK hW NB
        cases pt
        · by_cases hle : a.owner ≤ y.owner
          · have HLE := Lib.hid hle
            have i0_3 := HK1.out.cell 0
            have i1_3 := HK1.out.cell 1
            have i2_3 := HK1.out.cell 2
            have i3_3 := HK1.out.cell 3
            simp only [entA, List.getElem?_toArray, List.getElem?_cons_zero, List.getElem?_cons_succ] at i0_3 i1_3 i2_3 i3_3
            have bY := (Below.refl A1.heap.size A1).alloc (Nat.le_refl _) (.cells (entA (a, Value.slice af a.fs.length cf, Value.slice al a.ls.length cl)) 69)
            have kY := blk_at A1 (entA (a, Value.slice af a.fs.length cf, Value.slice al a.ls.length cl)) 69 rfl
            obtain ⟨Y3, hY3⟩ : ∃ Y, A1.alloc (.cells (entA (a, Value.slice af a.fs.length cf, Value.slice al a.ls.length cl)) 69) = Y := ⟨_, rfl⟩
            rw [hY3] at bY kY
            have HOY := Lib.hid (HO1.out.below bY)
            have HKY := Lib.hid (HK1.out.of_below bY)
            have HZY := Lib.hid (HZ1.out.of_below bY)
            have HWY := Lib.hid (HW1.out.trans (bY.mono HW1.out.size))
            have KY := Lib.hid kY
            have hn0y : w.heap.size < Y3.heap.size := HKY.out.lt
            simp only [entA] at hY3
            clear bY kY
            go_wp2_with (at_builtin; refine wpList_ent (.tmp 57) (.tmp 59) (w.heap.size + 1) (out).length _ (out) (a, Value.slice af a.fs.length cf, Value.slice al a.ls.length cl) A1.heap.size rfl rfl rfl rfl HOY.out KY.out (by omega) ⟨by (try rw [List.length_append, List.length_singleton]); omega, rfl, rfl⟩ ?_)
            intro v3 w3 q1 q2 q3
            have HO3 := Lib.hid q1
            have HK3 := Lib.hid (HKY.out.grown q2 (fun c => by have := (HOY.out.lt _ c).1; omega))
            have HZ3 := Lib.hid (HZY.out.grown q2 (fun c => HNV.out c))
            have HW3 := Lib.hid (HWY.out.grown q2 HWY.out.size (fun k hk => by have := (HOY.out.lt k hk).1; omega))
            clear q1 q2 q3 HOY HKY HWY KY i0_3 i1_3 i2_3 i3_3 hY3 hn0y HZY
            have HO3 : Hid (Sl (w.heap.size + 1) w3 69 4 v3 (out ++ [(a, Value.slice af a.fs.length cf, Value.slice al a.ls.length cl)]).length ((out ++ [(a, Value.slice af a.fs.length cf, Value.slice al a.ls.length cl)]).flatMap entC)) := Lib.hid (by simpa using HO3.out)
            have j0 := HK3.out.cell 0
            have z0 := HZ3.out.cell 0
            simp only [entA, List.getElem?_toArray, List.getElem?_cons_zero, List.getElem?_cons_succ] at j0 z0
            by_cases hne : y.owner = a.owner
            · have d3 : (y.owner != a.owner) = false := by simp [hne]
              have d4 : (y.owner == a.owner) = true := by simp [hne]
              have HNE := Lib.hid hne
              clear hne
              have HF := Lib.hid (show (E.take (k + 1)).foldl (lstep (a, Value.slice af a.fs.length cf, Value.slice al a.ls.length cl)) ([], false) = ((out ++ [(a, Value.slice af a.fs.length cf, Value.slice al a.ls.length cl)]), true) by rw [fold_take hy.out, hS.out]; unfold lstep; simp [HNE.out, HLE.out])
              go_wp2_with fail
              go_roundw
              case rel => exact ⟨k + 1, true, (out ++ [(a, Value.slice af a.fs.length cf, Value.slice al a.ls.length cl)]), rfl, by go_num, by omega, HF, HO3, HK3, HW3⟩
              case measure => simp [intOf]; omega
            · have d3 : (y.owner != a.owner) = true := by simp [hne]
              have d4 : (y.owner == a.owner) = false := by simp [hne]
              have HNE := Lib.hid hne
              clear hne
              have i0_4 := HZ3.out.cell 0
              have i1_4 := HZ3.out.cell 1
              have i2_4 := HZ3.out.cell 2
              have i3_4 := HZ3.out.cell 3
              simp only [entA, List.getElem?_toArray, List.getElem?_cons_zero, List.getElem?_cons_succ] at i0_4 i1_4 i2_4 i3_4
              have bY := (Below.refl w3.heap.size w3).alloc (Nat.le_refl _) (.cells (entA (y, Value.slice yf y.fs.length df, Value.slice yl y.ls.length dl)) 69)
              have kY := blk_at w3 (entA (y, Value.slice yf y.fs.length df, Value.slice yl y.ls.length dl)) 69 rfl
              obtain ⟨Y4, hY4⟩ : ∃ Y, w3.alloc (.cells (entA (y, Value.slice yf y.fs.length df, Value.slice yl y.ls.length dl)) 69) = Y := ⟨_, rfl⟩
              rw [hY4] at bY kY
              have HOY := Lib.hid (HO3.out.below bY)
              have HKY := Lib.hid (HK3.out.of_below bY)
              have HWY := Lib.hid (HW3.out.trans (bY.mono HW3.out.size))
              have KY := Lib.hid kY
              have hn0y : w.heap.size < Y4.heap.size := HKY.out.lt
              simp only [entA] at hY4
              clear bY kY
              go_wp2_with (at_builtin; refine wpList_ent (.tmp 66) (.tmp 68) (w.heap.size + 1) ((out ++ [(a, Value.slice af a.fs.length cf, Value.slice al a.ls.length cl)])).length _ ((out ++ [(a, Value.slice af a.fs.length cf, Value.slice al a.ls.length cl)])) (y, Value.slice yf y.fs.length df, Value.slice yl y.ls.length dl) w3.heap.size rfl rfl rfl rfl HOY.out KY.out (by omega) ⟨by (try rw [List.length_append, List.length_singleton]); omega, rfl, rfl⟩ ?_)
              intro v4 w4 q1 q2 q3
              have HO4 := Lib.hid q1
              have HK4 := Lib.hid (HKY.out.grown q2 (fun c => by have := (HOY.out.lt _ c).1; omega))
              have HW4 := Lib.hid (HWY.out.grown q2 HWY.out.size (fun k hk => by have := (HOY.out.lt k hk).1; omega))
              clear q1 q2 q3 HOY HKY HWY KY i0_4 i1_4 i2_4 i3_4 hY4 hn0y
              have HO4 : Hid (Sl (w.heap.size + 1) w4 69 4 v4 ((out ++ [(a, Value.slice af a.fs.length cf, Value.slice al a.ls.length cl)]) ++ [(y, Value.slice yf y.fs.length df, Value.slice yl y.ls.length dl)]).length (((out ++ [(a, Value.slice af a.fs.length cf, Value.slice al a.ls.length cl)]) ++ [(y, Value.slice yf y.fs.length df, Value.slice yl y.ls.length dl)]).flatMap entC)) := Lib.hid (by simpa using HO4.out)
              have HF := Lib.hid (show (E.take (k + 1)).foldl (lstep (a, Value.slice af a.fs.length cf, Value.slice al a.ls.length cl)) ([], false) = ((out ++ [(a, Value.slice af a.fs.length cf, Value.slice al a.ls.length cl)]) ++ [(y, Value.slice yf y.fs.length df, Value.slice yl y.ls.length dl)], true) by rw [fold_take hy.out, hS.out]; unfold lstep; simp [HNE.out, HLE.out])
              go_wp2_with fail
              go_roundw
              case rel => exact ⟨k + 1, true, (out ++ [(a, Value.slice af a.fs.length cf, Value.slice al a.ls.length cl)]) ++ [(y, Value.slice yf y.fs.length df, Value.slice yl y.ls.length dl)], rfl, by go_num, by omega, HF, HO4, HK4, HW4⟩
              case measure => simp [intOf]; omega

          · have hled : decide (a.owner ≤ y.owner) = false := by simpa using hle
            have HLE := Lib.hid hle
            by_cases hne : y.owner = a.owner
            · exact absurd (Int.le_of_eq hne.symm) HLE.out
            · have d3 : (y.owner != a.owner) = true := by simp [hne]
              have d4 : (y.owner == a.owner) = false := by simp [hne]
              have HNE := Lib.hid hne
              clear hne
              have i0_4 := HZ1.out.cell 0
              have i1_4 := HZ1.out.cell 1
              have i2_4 := HZ1.out.cell 2
              have i3_4 := HZ1.out.cell 3
              simp only [entA, List.getElem?_toArray, List.getElem?_cons_zero, List.getElem?_cons_succ] at i0_4 i1_4 i2_4 i3_4
              have bY := (Below.refl A1.heap.size A1).alloc (Nat.le_refl _) (.cells (entA (y, Value.slice yf y.fs.length df, Value.slice yl y.ls.length dl)) 69)
              have kY := blk_at A1 (entA (y, Value.slice yf y.fs.length df, Value.slice yl y.ls.length dl)) 69 rfl
              obtain ⟨Y4, hY4⟩ : ∃ Y, A1.alloc (.cells (entA (y, Value.slice yf y.fs.length df, Value.slice yl y.ls.length dl)) 69) = Y := ⟨_, rfl⟩
              rw [hY4] at bY kY
              have HOY := Lib.hid (HO1.out.below bY)
              have HKY := Lib.hid (HK1.out.of_below bY)
              have HWY := Lib.hid (HW1.out.trans (bY.mono HW1.out.size))
              have KY := Lib.hid kY
              have hn0y : w.heap.size < Y4.heap.size := HKY.out.lt
              simp only [entA] at hY4
              clear bY kY
              go_wp2_with (at_builtin; refine wpList_ent (.tmp 66) (.tmp 68) (w.heap.size + 1) (out).length _ (out) (y, Value.slice yf y.fs.length df, Value.slice yl y.ls.length dl) A1.heap.size rfl rfl rfl rfl HOY.out KY.out (by omega) ⟨by (try rw [List.length_append, List.length_singleton]); omega, rfl, rfl⟩ ?_)
              intro v4 w4 q1 q2 q3
              have HO4 := Lib.hid q1
              have HK4 := Lib.hid (HKY.out.grown q2 (fun c => by have := (HOY.out.lt _ c).1; omega))
              have HW4 := Lib.hid (HWY.out.grown q2 HWY.out.size (fun k hk => by have := (HOY.out.lt k hk).1; omega))
              clear q1 q2 q3 HOY HKY HWY KY i0_4 i1_4 i2_4 i3_4 hY4 hn0y
              have HO4 : Hid (Sl (w.heap.size + 1) w4 69 4 v4 (out ++ [(y, Value.slice yf y.fs.length df, Value.slice yl y.ls.length dl)]).length ((out ++ [(y, Value.slice yf y.fs.length df, Value.slice yl y.ls.length dl)]).flatMap entC)) := Lib.hid (by simpa using HO4.out)
              have HF := Lib.hid (show (E.take (k + 1)).foldl (lstep (a, Value.slice af a.fs.length cf, Value.slice al a.ls.length cl)) ([], false) = (out ++ [(y, Value.slice yf y.fs.length df, Value.slice yl y.ls.length dl)], false) by rw [fold_take hy.out, hS.out]; unfold lstep; simp [HNE.out, show (a.owner ≤ y.owner) = False from eq_false (by have := HLE.out; omega)])
              go_wp2_with fail
              go_roundw
              case rel => exact ⟨k + 1, false, out ++ [(y, Value.slice yf y.fs.length df, Value.slice yl y.ls.length dl)], rfl, by go_num, by omega, HF, HO4, HK4, HW4⟩
              case measure => simp [intOf]; omega

        · by_cases hne : y.owner = a.owner
          · have d3 : (y.owner != a.owner) = false := by simp [hne]
            have d4 : (y.owner == a.owner) = true := by simp [hne]
            have HNE := Lib.hid hne
            clear hne
            have HF := Lib.hid (show (E.take (k + 1)).foldl (lstep (a, Value.slice af a.fs.length cf, Value.slice al a.ls.length cl)) ([], false) = (out, true) by rw [fold_take hy.out, hS.out]; unfold lstep; simp [HNE.out])
            go_wp2_with fail
            go_roundw
            case rel => exact ⟨k + 1, true, out, rfl, by go_num, by omega, HF, HO1, HK1, HW1⟩
            case measure => simp [intOf]; omega
          · have d3 : (y.owner != a.owner) = true := by simp [hne]
            have d4 : (y.owner == a.owner) = false := by simp [hne]
            have HNE := Lib.hid hne
            clear hne
            have i0_4 := HZ1.out.cell 0
            have i1_4 := HZ1.out.cell 1
            have i2_4 := HZ1.out.cell 2
            have i3_4 := HZ1.out.cell 3
            simp only [entA, List.getElem?_toArray, List.getElem?_cons_zero, List.getElem?_cons_succ] at i0_4 i1_4 i2_4 i3_4
            have bY := (Below.refl A1.heap.size A1).alloc (Nat.le_refl _) (.cells (entA (y, Value.slice yf y.fs.length df, Value.slice yl y.ls.length dl)) 69)
            have kY := blk_at A1 (entA (y, Value.slice yf y.fs.length df, Value.slice yl y.ls.length dl)) 69 rfl
            obtain ⟨Y4, hY4⟩ : ∃ Y, A1.alloc (.cells (entA (y, Value.slice yf y.fs.length df, Value.slice yl y.ls.length dl)) 69) = Y := ⟨_, rfl⟩
            rw [hY4] at bY kY
            have HOY := Lib.hid (HO1.out.below bY)
            have HKY := Lib.hid (HK1.out.of_below bY)
            have HWY := Lib.hid (HW1.out.trans (bY.mono HW1.out.size))
            have KY := Lib.hid kY
            have hn0y : w.heap.size < Y4.heap.size := HKY.out.lt
            simp only [entA] at hY4
            clear bY kY
            go_wp2_with (at_builtin; refine wpList_ent (.tmp 66) (.tmp 68) (w.heap.size + 1) (out).length _ (out) (y, Value.slice yf y.fs.length df, Value.slice yl y.ls.length dl) A1.heap.size rfl rfl rfl rfl HOY.out KY.out (by omega) ⟨by (try rw [List.length_append, List.length_singleton]); omega, rfl, rfl⟩ ?_)
            intro v4 w4 q1 q2 q3
            have HO4 := Lib.hid q1
            have HK4 := Lib.hid (HKY.out.grown q2 (fun c => by have := (HOY.out.lt _ c).1; omega))
            have HW4 := Lib.hid (HWY.out.grown q2 HWY.out.size (fun k hk => by have := (HOY.out.lt k hk).1; omega))
            clear q1 q2 q3 HOY HKY HWY KY i0_4 i1_4 i2_4 i3_4 hY4 hn0y
            have HO4 : Hid (Sl (w.heap.size + 1) w4 69 4 v4 (out ++ [(y, Value.slice yf y.fs.length df, Value.slice yl y.ls.length dl)]).length ((out ++ [(y, Value.slice yf y.fs.length df, Value.slice yl y.ls.length dl)]).flatMap entC)) := Lib.hid (by simpa using HO4.out)
            have HF := Lib.hid (show (E.take (k + 1)).foldl (lstep (a, Value.slice af a.fs.length cf, Value.slice al a.ls.length cl)) ([], false) = (out ++ [(y, Value.slice yf y.fs.length df, Value.slice yl y.ls.length dl)], true) by rw [fold_take hy.out, hS.out]; unfold lstep; simp [HNE.out])
            go_wp2_with fail
            go_roundw
            case rel => exact ⟨k + 1, true, out ++ [(y, Value.slice yf y.fs.length df, Value.slice yl y.ls.length dl)], rfl, by go_num, by omega, HF, HO4, HK4, HW4⟩
            case measure => simp [intOf]; omega

      · obtain rfl : k = E.length := by omega
        rw [List.take_length] at hS
        cases pt
        · have i0_3 := hK.out.cell 0
          have i1_3 := hK.out.cell 1
          have i2_3 := hK.out.cell 2
          have i3_3 := hK.out.cell 3
          simp only [entA, List.getElem?_toArray, List.getElem?_cons_zero, List.getElem?_cons_succ] at i0_3 i1_3 i2_3 i3_3
          have bY := (Below.refl wr.heap.size wr).alloc (Nat.le_refl _) (.cells (entA (a, Value.slice af a.fs.length cf, Value.slice al a.ls.length cl)) 69)
          have kY := blk_at wr (entA (a, Value.slice af a.fs.length cf, Value.slice al a.ls.length cl)) 69 rfl
          obtain ⟨Y3, hY3⟩ : ∃ Y, wr.alloc (.cells (entA (a, Value.slice af a.fs.length cf, Value.slice al a.ls.length cl)) 69) = Y := ⟨_, rfl⟩
          rw [hY3] at bY kY
          have HOY := Lib.hid (hO.out.below bY)
          have HKY := Lib.hid (hK.out.of_below bY)
          have HWY := Lib.hid (hW.out.trans (bY.mono hW.out.size))
          have KY := Lib.hid kY
          have hn0y : w.heap.size < Y3.heap.size := HKY.out.lt
          simp only [entA] at hY3
          clear bY kY
          go_wp2_with (at_builtin; refine wpList_ent (.tmp 72) (.tmp 74) (w.heap.size + 1) (out).length _ (out) (a, Value.slice af a.fs.length cf, Value.slice al a.ls.length cl) wr.heap.size rfl rfl rfl rfl HOY.out KY.out (by omega) ⟨by (try rw [List.length_append, List.length_singleton]); omega, rfl, rfl⟩ ?_)
          intro v3 w3 q1 q2 q3
          have HO3 := Lib.hid q1
          have HK3 := Lib.hid (HKY.out.grown q2 (fun c => by have := (HOY.out.lt _ c).1; omega))
          have HW3 := Lib.hid (HWY.out.grown q2 HWY.out.size (fun k hk => by have := (HOY.out.lt k hk).1; omega))
          clear q1 q2 q3 HOY HKY HWY KY i0_3 i1_3 i2_3 i3_3 hY3 hn0y
          have HLR : lrun (a, Value.slice af a.fs.length cf, Value.slice al a.ls.length cl) E = out ++ [(a, Value.slice af a.fs.length cf, Value.slice al a.ls.length cl)] := by unfold lrun; rw [hS.out]; rfl
          have HO3 : Hid (Sl (w.heap.size + 1) w3 69 4 v3 (lrun (a, Value.slice af a.fs.length cf, Value.slice al a.ls.length cl) E).length ((lrun (a, Value.slice af a.fs.length cf, Value.slice al a.ls.length cl) E).flatMap entC)) := Lib.hid (by rw [HLR]; simpa using HO3.out)
          have c1 := (HW3.out.cell (p := ⟨bp, 0, none⟩) hbpw).trans C0.out
          have c2 : w3.frozen? ⟨bp, 0, none⟩ = false := (HB0.out.of_below HW3.out).frozen 0
          have HEND := Lib.hid (dlearn_end (a := (a, Value.slice af a.fs.length cf, Value.slice al a.ls.length cl)) HD.out HW3.out HAD.out HG.out HO3.out)
          obtain ⟨ao3, ca3, rfl, -, -, -⟩ := HO3.out.form
          clear HLR
          go_wp2
          go_ret2
          exact dlrnPost_mk rfl (HR.out.learn (a := (a, Value.slice af a.fs.length cf, Value.slice al a.ls.length cl)) HYQS.out) (lrun_len _ _) HEND.out.1 HEND.out.2
        · have HLR : lrun (a, Value.slice af a.fs.length cf, Value.slice al a.ls.length cl) E = out := by unfold lrun; rw [hS.out]; rfl
          have HO3 := Lib.hid (show Sl (w.heap.size + 1) wr 69 4 _ (lrun (a, Value.slice af a.fs.length cf, Value.slice al a.ls.length cl) E).length ((lrun (a, Value.slice af a.fs.length cf, Value.slice al a.ls.length cl) E).flatMap entC) by rw [HLR]; exact hO.out)
          have c2 : wr.frozen? ⟨bp, 0, none⟩ = false := (HB0.out.of_below hW.out).frozen 0
          have HEND := Lib.hid (dlearn_end (a := (a, Value.slice af a.fs.length cf, Value.slice al a.ls.length cl)) HD.out hW.out HAD.out HG.out HO3.out)
          obtain ⟨ao3, ca3, rfl, -, -, -⟩ := HO3.out.form
          clear HLR
          go_wp2
          go_ret2
          exact dlrnPost_mk rfl (HR.out.learn (a := (a, Value.slice af a.fs.length cf, Value.slice al a.ls.length cl)) HYQS.out) (lrun_len _ _) HEND.out.1 HEND.out.2


  · by_cases hver : a.version ≤ od.version
    · have hvd : decide (a.version ≤ od.version) = true := by simpa using hver
      have HX := Lib.hid (learn_no (K := K) (a := a) (by rw [HV.out]; intro c; omega))
      go_wp2_with fail
      go_ret2
      exact dlrnPost_mk HX.out HR.out (by omega) (HD.out.below HBX.out) (Fr.of_below HBX.out HD.out.sz)
    · have hvd : decide (a.version ≤ od.version) = false := by simpa using hver
      have HYQS : Hid (goodA a = true ∧ verOf K a.owner < a.version) := Lib.hid ⟨HG.out, by rw [HV.out]; omega⟩
      go_wp2_with fail
      clear x1 k1 cX hX hver hvd
      go_loopw [9, 10, 11] (fun v p i wr => ∃ (k : Nat) (pt : Bool) (out : List Ent), p = .bool pt ∧ i = .int .i64 k ∧ k ≤ E.length ∧ Hid ((E.take k).foldl (lstep (a, Value.slice af a.fs.length cf, Value.slice al a.ls.length cl)) ([], false) = (out, pt)) ∧ Hid (Sl (w.heap.size + 1) wr 69 4 v out.length (out.flatMap entC)) ∧ Hid (Blk wr w.heap.size (entA (a, Value.slice af a.fs.length cf, Value.slice al a.ls.length cl)) 69) ∧ Hid (Below w.heap.size w wr)) (fun _ _ i _ => E.length - (intOf i).toNat)
      case atStart => exact ⟨0, false, [], rfl, rfl, Nat.zero_le _, Lib.hid rfl, Lib.hid (Sl.nil _ _ _ _), HKX, HBX⟩
      case round =>
        obtain ⟨k, pt, out, rfl, rfl, hk, hS, hO, hK, hW⟩ := hrel
        have c0 := (hW.out.cell (p := ⟨bp, 0, none⟩) hbpw).trans C0.out
        have hlen : out.length ≤ 901 := by
          have := (lsInv (a, Value.slice af a.fs.length cf, Value.slice al a.ls.length cl) E k).len
          rw [hS.out] at this
          have h2 : (E.take k).length ≤ k := by rw [List.length_take]; omega
          simp only at this
          split at this <;> omega
        by_cases hlt : k < E.length
        · have hkM : (k : Int) < (E.length : Int) := by omega
          obtain ⟨ye, hy⟩ : ∃ y, E[k]? = some y := ⟨_, List.getElem?_eq_getElem (by omega)⟩
          obtain ⟨g, o, rfl, hg, m0, m1, m2, m3⟩ := ent_cells HS.out hy
          have m0 := (hW.out.cell (p := ⟨g, o + k * 4, none⟩) hg).trans m0
          have m1 := (hW.out.cell (p := ⟨g, o + k * 4 + 1, none⟩) hg).trans m1
          have m2 := (hW.out.cell (p := ⟨g, o + k * 4 + 2, none⟩) hg).trans m2
          have m3 := (hW.out.cell (p := ⟨g, o + k * 4 + 3, none⟩) hg).trans m3
          have hya := HD.out.ads ye (List.mem_of_getElem? hy)
          obtain ⟨y, wf, wl⟩ := ye
          simp only at m0 m1 m2 m3 hya
          obtain ⟨yf, df, rfl, -, -, -⟩ := hya.fs.form
          obtain ⟨yl, dl, rfl, -, -, -⟩ := hya.ls.form
          have hy := Lib.hid hy
          clear hya hg
          have bA := (Below.refl wr.heap.size wr).alloc (Nat.le_refl _) (.cells (entA (y, Value.slice yf y.fs.length df, Value.slice yl y.ls.length dl)) 69)
          have kA := blk_at wr (entA (y, Value.slice yf y.fs.length df, Value.slice yl y.ls.length dl)) 69 rfl
          obtain ⟨A1, hA1⟩ : ∃ A, wr.alloc (.cells (entA (y, Value.slice yf y.fs.length df, Value.slice yl y.ls.length dl)) 69) = A := ⟨_, rfl⟩
          rw [hA1] at bA kA
          have HO1 := Lib.hid (hO.out.below bA)
          have HK1 := Lib.hid (hK.out.of_below bA)
          have HW1 := Lib.hid (hW.out.trans (bA.mono hW.out.size))
          have HZ1 := Lib.hid kA
          have j0 := HK1.out.cell 0
          have z0 := kA.cell 0
          have hww : w.heap.size ≤ wr.heap.size := hW.out.size
          have hwne : wr.heap.size ≠ w.heap.size := by have := hK.out.lt; omega
          have NB : Hid (∀ v n xs, Sl (w.heap.size + 1) wr 69 4 v n xs → v.ownBlock ≠ some wr.heap.size) := Lib.hid (fun v n xs h c => by have := (h.lt _ c).2; omega)
          have HNV := Lib.hid (NB.out _ _ _ hO.out)
          simp only [entA, List.getElem?_toArray, List.getElem?_cons_zero, List.getElem?_cons_succ] at j0 z0 hA1
          clear bA kA hO hK hW NB
          cases pt
          · by_cases hle : a.owner ≤ y.owner
            · have HLE := Lib.hid hle
              have i0_3 := HK1.out.cell 0
              have i1_3 := HK1.out.cell 1
              have i2_3 := HK1.out.cell 2
              have i3_3 := HK1.out.cell 3
              simp only [entA, List.getElem?_toArray, List.getElem?_cons_zero, List.getElem?_cons_succ] at i0_3 i1_3 i2_3 i3_3
              have bY := (Below.refl A1.heap.size A1).alloc (Nat.le_refl _) (.cells (entA (a, Value.slice af a.fs.length cf, Value.slice al a.ls.length cl)) 69)
              have kY := blk_at A1 (entA (a, Value.slice af a.fs.length cf, Value.slice al a.ls.length cl)) 69 rfl
              obtain ⟨Y3, hY3⟩ : ∃ Y, A1.alloc (.cells (entA (a, Value.slice af a.fs.length cf, Value.slice al a.ls.length cl)) 69) = Y := ⟨_, rfl⟩
              rw [hY3] at bY kY
              have HOY := Lib.hid (HO1.out.below bY)
              have HKY := Lib.hid (HK1.out.of_below bY)
              have HZY := Lib.hid (HZ1.out.of_below bY)
              have HWY := Lib.hid (HW1.out.trans (bY.mono HW1.out.size))
              have KY := Lib.hid kY
              have hn0y : w.heap.size < Y3.heap.size := HKY.out.lt
              simp only [entA] at hY3
              clear bY kY
              go_wp2_with (at_builtin; refine wpList_ent (.tmp 57) (.tmp 59) (w.heap.size + 1) (out).length _ (out) (a, Value.slice af a.fs.length cf, Value.slice al a.ls.length cl) A1.heap.size rfl rfl rfl rfl HOY.out KY.out (by omega) ⟨by (try rw [List.length_append, List.length_singleton]); omega, rfl, rfl⟩ ?_)
              intro v3 w3 q1 q2 q3
              have HO3 := Lib.hid q1
              have HK3 := Lib.hid (HKY.out.grown q2 (fun c => by have := (HOY.out.lt _ c).1; omega))
              have HZ3 := Lib.hid (HZY.out.grown q2 (fun c => HNV.out c))
              have HW3 := Lib.hid (HWY.out.grown q2 HWY.out.size (fun k hk => by have := (HOY.out.lt k hk).1; omega))
              clear q1 q2 q3 HOY HKY HWY KY i0_3 i1_3 i2_3 i3_3 hY3 hn0y HZY
              have HO3 : Hid (Sl (w.heap.size + 1) w3 69 4 v3 (out ++ [(a, Value.slice af a.fs.length cf, Value.slice al a.ls.length cl)]).length ((out ++ [(a, Value.slice af a.fs.length cf, Value.slice al a.ls.length cl)]).flatMap entC)) := Lib.hid (by simpa using HO3.out)
              have j0 := HK3.out.cell 0
              have z0 := HZ3.out.cell 0
              simp only [entA, List.getElem?_toArray, List.getElem?_cons_zero, List.getElem?_cons_succ] at j0 z0
              by_cases hne : y.owner = a.owner
              · have d3 : (y.owner != a.owner) = false := by simp [hne]
                have d4 : (y.owner == a.owner) = true := by simp [hne]
                have HNE := Lib.hid hne
                clear hne
                have HF := Lib.hid (show (E.take (k + 1)).foldl (lstep (a, Value.slice af a.fs.length cf, Value.slice al a.ls.length cl)) ([], false) = ((out ++ [(a, Value.slice af a.fs.length cf, Value.slice al a.ls.length cl)]), true) by rw [fold_take hy.out, hS.out]; unfold lstep; simp [HNE.out, HLE.out])
                go_wp2_with fail
                go_roundw
                case rel => exact ⟨k + 1, true, (out ++ [(a, Value.slice af a.fs.length cf, Value.slice al a.ls.length cl)]), rfl, by go_num, by omega, HF, HO3, HK3, HW3⟩
                case measure => simp [intOf]; omega
              · have d3 : (y.owner != a.owner) = true := by simp [hne]
                have d4 : (y.owner == a.owner) = false := by simp [hne]
                have HNE := Lib.hid hne
                clear hne
                have i0_4 := HZ3.out.cell 0
                have i1_4 := HZ3.out.cell 1
                have i2_4 := HZ3.out.cell 2
                have i3_4 := HZ3.out.cell 3
                simp only [entA, List.getElem?_toArray, List.getElem?_cons_zero, List.getElem?_cons_succ] at i0_4 i1_4 i2_4 i3_4
                have bY := (Below.refl w3.heap.size w3).alloc (Nat.le_refl _) (.cells (entA (y, Value.slice yf y.fs.length df, Value.slice yl y.ls.length dl)) 69)
                have kY := blk_at w3 (entA (y, Value.slice yf y.fs.length df, Value.slice yl y.ls.length dl)) 69 rfl
                obtain ⟨Y4, hY4⟩ : ∃ Y, w3.alloc (.cells (entA (y, Value.slice yf y.fs.length df, Value.slice yl y.ls.length dl)) 69) = Y := ⟨_, rfl⟩
                rw [hY4] at bY kY
                have HOY := Lib.hid (HO3.out.below bY)
                have HKY := Lib.hid (HK3.out.of_below bY)
                have HWY := Lib.hid (HW3.out.trans (bY.mono HW3.out.size))
                have KY := Lib.hid kY
                have hn0y : w.heap.size < Y4.heap.size := HKY.out.lt
                simp only [entA] at hY4
                clear bY kY
                go_wp2_with (at_builtin; refine wpList_ent (.tmp 66) (.tmp 68) (w.heap.size + 1) ((out ++ [(a, Value.slice af a.fs.length cf, Value.slice al a.ls.length cl)])).length _ ((out ++ [(a, Value.slice af a.fs.length cf, Value.slice al a.ls.length cl)])) (y, Value.slice yf y.fs.length df, Value.slice yl y.ls.length dl) w3.heap.size rfl rfl rfl rfl HOY.out KY.out (by omega) ⟨by (try rw [List.length_append, List.length_singleton]); omega, rfl, rfl⟩ ?_)
                intro v4 w4 q1 q2 q3
                have HO4 := Lib.hid q1
                have HK4 := Lib.hid (HKY.out.grown q2 (fun c => by have := (HOY.out.lt _ c).1; omega))
                have HW4 := Lib.hid (HWY.out.grown q2 HWY.out.size (fun k hk => by have := (HOY.out.lt k hk).1; omega))
                clear q1 q2 q3 HOY HKY HWY KY i0_4 i1_4 i2_4 i3_4 hY4 hn0y
                have HO4 : Hid (Sl (w.heap.size + 1) w4 69 4 v4 ((out ++ [(a, Value.slice af a.fs.length cf, Value.slice al a.ls.length cl)]) ++ [(y, Value.slice yf y.fs.length df, Value.slice yl y.ls.length dl)]).length (((out ++ [(a, Value.slice af a.fs.length cf, Value.slice al a.ls.length cl)]) ++ [(y, Value.slice yf y.fs.length df, Value.slice yl y.ls.length dl)]).flatMap entC)) := Lib.hid (by simpa using HO4.out)
                have HF := Lib.hid (show (E.take (k + 1)).foldl (lstep (a, Value.slice af a.fs.length cf, Value.slice al a.ls.length cl)) ([], false) = ((out ++ [(a, Value.slice af a.fs.length cf, Value.slice al a.ls.length cl)]) ++ [(y, Value.slice yf y.fs.length df, Value.slice yl y.ls.length dl)], true) by rw [fold_take hy.out, hS.out]; unfold lstep; simp [HNE.out, HLE.out])
                go_wp2_with fail
                go_roundw
                case rel => exact ⟨k + 1, true, (out ++ [(a, Value.slice af a.fs.length cf, Value.slice al a.ls.length cl)]) ++ [(y, Value.slice yf y.fs.length df, Value.slice yl y.ls.length dl)], rfl, by go_num, by omega, HF, HO4, HK4, HW4⟩
                case measure => simp [intOf]; omega

            · have hled : decide (a.owner ≤ y.owner) = false := by simpa using hle
              have HLE := Lib.hid hle
              by_cases hne : y.owner = a.owner
              · exact absurd (Int.le_of_eq hne.symm) HLE.out
              · have d3 : (y.owner != a.owner) = true := by simp [hne]
                have d4 : (y.owner == a.owner) = false := by simp [hne]
                have HNE := Lib.hid hne
                clear hne
                have i0_4 := HZ1.out.cell 0
                have i1_4 := HZ1.out.cell 1
                have i2_4 := HZ1.out.cell 2
                have i3_4 := HZ1.out.cell 3
                simp only [entA, List.getElem?_toArray, List.getElem?_cons_zero, List.getElem?_cons_succ] at i0_4 i1_4 i2_4 i3_4
                have bY := (Below.refl A1.heap.size A1).alloc (Nat.le_refl _) (.cells (entA (y, Value.slice yf y.fs.length df, Value.slice yl y.ls.length dl)) 69)
                have kY := blk_at A1 (entA (y, Value.slice yf y.fs.length df, Value.slice yl y.ls.length dl)) 69 rfl
                obtain ⟨Y4, hY4⟩ : ∃ Y, A1.alloc (.cells (entA (y, Value.slice yf y.fs.length df, Value.slice yl y.ls.length dl)) 69) = Y := ⟨_, rfl⟩
                rw [hY4] at bY kY
                have HOY := Lib.hid (HO1.out.below bY)
                have HKY := Lib.hid (HK1.out.of_below bY)
                have HWY := Lib.hid (HW1.out.trans (bY.mono HW1.out.size))
                have KY := Lib.hid kY
                have hn0y : w.heap.size < Y4.heap.size := HKY.out.lt
                simp only [entA] at hY4
                clear bY kY
                go_wp2_with (at_builtin; refine wpList_ent (.tmp 66) (.tmp 68) (w.heap.size + 1) (out).length _ (out) (y, Value.slice yf y.fs.length df, Value.slice yl y.ls.length dl) A1.heap.size rfl rfl rfl rfl HOY.out KY.out (by omega) ⟨by (try rw [List.length_append, List.length_singleton]); omega, rfl, rfl⟩ ?_)
                intro v4 w4 q1 q2 q3
                have HO4 := Lib.hid q1
                have HK4 := Lib.hid (HKY.out.grown q2 (fun c => by have := (HOY.out.lt _ c).1; omega))
                have HW4 := Lib.hid (HWY.out.grown q2 HWY.out.size (fun k hk => by have := (HOY.out.lt k hk).1; omega))
                clear q1 q2 q3 HOY HKY HWY KY i0_4 i1_4 i2_4 i3_4 hY4 hn0y
                have HO4 : Hid (Sl (w.heap.size + 1) w4 69 4 v4 (out ++ [(y, Value.slice yf y.fs.length df, Value.slice yl y.ls.length dl)]).length ((out ++ [(y, Value.slice yf y.fs.length df, Value.slice yl y.ls.length dl)]).flatMap entC)) := Lib.hid (by simpa using HO4.out)
                have HF := Lib.hid (show (E.take (k + 1)).foldl (lstep (a, Value.slice af a.fs.length cf, Value.slice al a.ls.length cl)) ([], false) = (out ++ [(y, Value.slice yf y.fs.length df, Value.slice yl y.ls.length dl)], false) by rw [fold_take hy.out, hS.out]; unfold lstep; simp [HNE.out, show (a.owner ≤ y.owner) = False from eq_false (by have := HLE.out; omega)])
                go_wp2_with fail
                go_roundw
                case rel => exact ⟨k + 1, false, out ++ [(y, Value.slice yf y.fs.length df, Value.slice yl y.ls.length dl)], rfl, by go_num, by omega, HF, HO4, HK4, HW4⟩
                case measure => simp [intOf]; omega

          · by_cases hne : y.owner = a.owner
            · have d3 : (y.owner != a.owner) = false := by simp [hne]
              have d4 : (y.owner == a.owner) = true := by simp [hne]
              have HNE := Lib.hid hne
              clear hne
              have HF := Lib.hid (show (E.take (k + 1)).foldl (lstep (a, Value.slice af a.fs.length cf, Value.slice al a.ls.length cl)) ([], false) = (out, true) by rw [fold_take hy.out, hS.out]; unfold lstep; simp [HNE.out])
              go_wp2_with fail
              go_roundw
              case rel => exact ⟨k + 1, true, out, rfl, by go_num, by omega, HF, HO1, HK1, HW1⟩
              case measure => simp [intOf]; omega
            · have d3 : (y.owner != a.owner) = true := by simp [hne]
              have d4 : (y.owner == a.owner) = false := by simp [hne]
              have HNE := Lib.hid hne
              clear hne
              have i0_4 := HZ1.out.cell 0
              have i1_4 := HZ1.out.cell 1
              have i2_4 := HZ1.out.cell 2
              have i3_4 := HZ1.out.cell 3
              simp only [entA, List.getElem?_toArray, List.getElem?_cons_zero, List.getElem?_cons_succ] at i0_4 i1_4 i2_4 i3_4
              have bY := (Below.refl A1.heap.size A1).alloc (Nat.le_refl _) (.cells (entA (y, Value.slice yf y.fs.length df, Value.slice yl y.ls.length dl)) 69)
              have kY := blk_at A1 (entA (y, Value.slice yf y.fs.length df, Value.slice yl y.ls.length dl)) 69 rfl
              obtain ⟨Y4, hY4⟩ : ∃ Y, A1.alloc (.cells (entA (y, Value.slice yf y.fs.length df, Value.slice yl y.ls.length dl)) 69) = Y := ⟨_, rfl⟩
              rw [hY4] at bY kY
              have HOY := Lib.hid (HO1.out.below bY)
              have HKY := Lib.hid (HK1.out.of_below bY)
              have HWY := Lib.hid (HW1.out.trans (bY.mono HW1.out.size))
              have KY := Lib.hid kY
              have hn0y : w.heap.size < Y4.heap.size := HKY.out.lt
              simp only [entA] at hY4
              clear bY kY
              go_wp2_with (at_builtin; refine wpList_ent (.tmp 66) (.tmp 68) (w.heap.size + 1) (out).length _ (out) (y, Value.slice yf y.fs.length df, Value.slice yl y.ls.length dl) A1.heap.size rfl rfl rfl rfl HOY.out KY.out (by omega) ⟨by (try rw [List.length_append, List.length_singleton]); omega, rfl, rfl⟩ ?_)
              intro v4 w4 q1 q2 q3
              have HO4 := Lib.hid q1
              have HK4 := Lib.hid (HKY.out.grown q2 (fun c => by have := (HOY.out.lt _ c).1; omega))
              have HW4 := Lib.hid (HWY.out.grown q2 HWY.out.size (fun k hk => by have := (HOY.out.lt k hk).1; omega))
              clear q1 q2 q3 HOY HKY HWY KY i0_4 i1_4 i2_4 i3_4 hY4 hn0y
              have HO4 : Hid (Sl (w.heap.size + 1) w4 69 4 v4 (out ++ [(y, Value.slice yf y.fs.length df, Value.slice yl y.ls.length dl)]).length ((out ++ [(y, Value.slice yf y.fs.length df, Value.slice yl y.ls.length dl)]).flatMap entC)) := Lib.hid (by simpa using HO4.out)
              have HF := Lib.hid (show (E.take (k + 1)).foldl (lstep (a, Value.slice af a.fs.length cf, Value.slice al a.ls.length cl)) ([], false) = (out ++ [(y, Value.slice yf y.fs.length df, Value.slice yl y.ls.length dl)], true) by rw [fold_take hy.out, hS.out]; unfold lstep; simp [HNE.out])
              go_wp2_with fail
              go_roundw
              case rel => exact ⟨k + 1, true, out ++ [(y, Value.slice yf y.fs.length df, Value.slice yl y.ls.length dl)], rfl, by go_num, by omega, HF, HO4, HK4, HW4⟩
              case measure => simp [intOf]; omega

        · obtain rfl : k = E.length := by omega
          rw [List.take_length] at hS
          cases pt
          · have i0_3 := hK.out.cell 0
            have i1_3 := hK.out.cell 1
            have i2_3 := hK.out.cell 2
            have i3_3 := hK.out.cell 3
            simp only [entA, List.getElem?_toArray, List.getElem?_cons_zero, List.getElem?_cons_succ] at i0_3 i1_3 i2_3 i3_3
            have bY := (Below.refl wr.heap.size wr).alloc (Nat.le_refl _) (.cells (entA (a, Value.slice af a.fs.length cf, Value.slice al a.ls.length cl)) 69)
            have kY := blk_at wr (entA (a, Value.slice af a.fs.length cf, Value.slice al a.ls.length cl)) 69 rfl
            obtain ⟨Y3, hY3⟩ : ∃ Y, wr.alloc (.cells (entA (a, Value.slice af a.fs.length cf, Value.slice al a.ls.length cl)) 69) = Y := ⟨_, rfl⟩
            rw [hY3] at bY kY
            have HOY := Lib.hid (hO.out.below bY)
            have HKY := Lib.hid (hK.out.of_below bY)
            have HWY := Lib.hid (hW.out.trans (bY.mono hW.out.size))
            have KY := Lib.hid kY
            have hn0y : w.heap.size < Y3.heap.size := HKY.out.lt
            simp only [entA] at hY3
            clear bY kY
            go_wp2_with (at_builtin; refine wpList_ent (.tmp 72) (.tmp 74) (w.heap.size + 1) (out).length _ (out) (a, Value.slice af a.fs.length cf, Value.slice al a.ls.length cl) wr.heap.size rfl rfl rfl rfl HOY.out KY.out (by omega) ⟨by (try rw [List.length_append, List.length_singleton]); omega, rfl, rfl⟩ ?_)
            intro v3 w3 q1 q2 q3
            have HO3 := Lib.hid q1
            have HK3 := Lib.hid (HKY.out.grown q2 (fun c => by have := (HOY.out.lt _ c).1; omega))
            have HW3 := Lib.hid (HWY.out.grown q2 HWY.out.size (fun k hk => by have := (HOY.out.lt k hk).1; omega))
            clear q1 q2 q3 HOY HKY HWY KY i0_3 i1_3 i2_3 i3_3 hY3 hn0y
            have HLR : lrun (a, Value.slice af a.fs.length cf, Value.slice al a.ls.length cl) E = out ++ [(a, Value.slice af a.fs.length cf, Value.slice al a.ls.length cl)] := by unfold lrun; rw [hS.out]; rfl
            have HO3 : Hid (Sl (w.heap.size + 1) w3 69 4 v3 (lrun (a, Value.slice af a.fs.length cf, Value.slice al a.ls.length cl) E).length ((lrun (a, Value.slice af a.fs.length cf, Value.slice al a.ls.length cl) E).flatMap entC)) := Lib.hid (by rw [HLR]; simpa using HO3.out)
            have c1 := (HW3.out.cell (p := ⟨bp, 0, none⟩) hbpw).trans C0.out
            have c2 : w3.frozen? ⟨bp, 0, none⟩ = false := (HB0.out.of_below HW3.out).frozen 0
            have HEND := Lib.hid (dlearn_end (a := (a, Value.slice af a.fs.length cf, Value.slice al a.ls.length cl)) HD.out HW3.out HAD.out HG.out HO3.out)
            obtain ⟨ao3, ca3, rfl, -, -, -⟩ := HO3.out.form
            clear HLR
            go_wp2
            go_ret2
            exact dlrnPost_mk rfl (HR.out.learn (a := (a, Value.slice af a.fs.length cf, Value.slice al a.ls.length cl)) HYQS.out) (lrun_len _ _) HEND.out.1 HEND.out.2
          · have HLR : lrun (a, Value.slice af a.fs.length cf, Value.slice al a.ls.length cl) E = out := by unfold lrun; rw [hS.out]; rfl
            have HO3 := Lib.hid (show Sl (w.heap.size + 1) wr 69 4 _ (lrun (a, Value.slice af a.fs.length cf, Value.slice al a.ls.length cl) E).length ((lrun (a, Value.slice af a.fs.length cf, Value.slice al a.ls.length cl) E).flatMap entC) by rw [HLR]; exact hO.out)
            have c2 : wr.frozen? ⟨bp, 0, none⟩ = false := (HB0.out.of_below hW.out).frozen 0
            have HEND := Lib.hid (dlearn_end (a := (a, Value.slice af a.fs.length cf, Value.slice al a.ls.length cl)) HD.out hW.out HAD.out HG.out HO3.out)
            obtain ⟨ao3, ca3, rfl, -, -, -⟩ := HO3.out.form
            clear HLR
            go_wp2
            go_ret2
            exact dlrnPost_mk rfl (HR.out.learn (a := (a, Value.slice af a.fs.length cf, Value.slice al a.ls.length cl)) HYQS.out) (lrun_len _ _) HEND.out.1 HEND.out.2


end Go.Proofs.YtenoaonlngndpaaDoor
