/- Parts of the proof, joined: RgL. -/
import Derived.Test.YtedapgeabpadaaaDoorJ6P14
import Derived.Deep.DeepCutAuto
import Derived.IntWalk
set_option linter.unusedVariables false
set_option linter.unusedSimpArgs false
namespace Go.Proofs.YtedapgeabpadaaaDoor
open Go.RowKit Pl Go.PlainAid Go.Shelf

theorem info_dsb : (Tryd.prog.info? 83).map (fun i => (i.zero, i.size, i.bytes)) = some (some (.agg #[.string ⟨#[]⟩, .int .i64 0, .bool false, .bool false, .int .i64 0]), 5, 40) := by kernel_rfl
theorem info_dstr : (Tryd.prog.info? 9).map (fun i => (i.zero, i.size, i.bytes)) = some (some (.string ⟨#[]⟩), 1, 16) := by kernel_rfl
theorem info_dint : (Tryd.prog.info? 3).map (fun i => (i.zero, i.size, i.bytes)) = some (some (.int .i64 0), 1, 8) := by kernel_rfl
theorem dinfo_parts {e : TypeId} {z : Value} {sz by' : Nat} (h : (Tryd.prog.info? e).map (fun i => (i.zero, i.size, i.bytes)) = some (some z, sz, by')) : ∃ i, Tryd.prog.info? e = some i ∧ i.zero = some z ∧ i.size = sz ∧ i.bytes = by' := by
  cases hi : Tryd.prog.info? e with
  | none => rw [hi] at h; cases h
  | some i =>
    rw [hi] at h
    simp at h
    exact ⟨i, rfl, h.1, h.2.1, h.2.2⟩
/-- 'xs = append(xs, x)' of one element in a block of its own, element by element of a type. -/
theorem wpList_dapp {e T : TypeId} {sz by' : Nat} {z : Value} {ops : Array Oper} {rest : List Oper} {o : Oper} {a : Act} {w : World} {Q : Exit → Act → World → Prop} (hinf : (Tryd.prog.info? e).map (fun i => (i.zero, i.size, i.bytes)) = some (some z, sz, by')) (hT : Tryd.prog.underlying T = some (.slice e)) (hzs : z.cells.size = sz) (hsz : 0 < sz) (hby : by' ≤ 100)
    (s x : Operand) (B n : Nat) (v : Value) (xs : List Value) (cs : Array Value) (b : Nat) (hgd : o.guard = none) (ho : o.op = .call { callee := .builtin .append, args := #[s, x], argTypes := #[T, T] })
    (hs : a.eval s = v) (hx : a.eval x = .slice (some ⟨b, 0, none⟩) 1 1) (h : Sl B w e sz v n xs) (hb : Blk w b cs e) (hcl : cs.size = sz) (h1 : ∀ u ∈ cs.toList, u.oneCell' = true) (hB : B ≤ w.heap.size) (hl : n ≤ 1048576)
    (hK : ∀ (hd : Hd) w', Sl B w' e sz hd.v (n + 1) (xs ++ cs.toList) → hd.n = n + 1 → w.grownBy w' v.ownBlock → wpList Tryd.prog ops Q rest (a.put o.dst hd.v) w') :
    wpList Tryd.prog ops Q (o :: rest) a w := by
  obtain ⟨i1, hi1, hi1z, hi1s, hi1b⟩ := dinfo_parts hinf
  refine wpList_append_sl s x T i1 _ by' b cs hgd ho hT hi1 hi1z hi1s hi1b hzs hsz hcl h1 hs hx h hb hB (by unfold maxLen; omega) (by have : (n + 1) * by' ≤ 1048577 * 100 := Nat.mul_le_mul (by omega) hby; omega) ?_
  intro v' w' r1 r2 r3
  obtain ⟨ao, cap, rfl, -, -, -⟩ := r1.form
  exact hK ⟨ao, n + 1, cap⟩ w' r1 rfl r2
/-- The three lists that grow, in the call's own memory. -/
structure Lst (w : World) (q : Pk) (m : Hs) (X : World) : Prop where
  cs : Sl w.heap.size X 3 1 m.c.v q.codes.length (q.codes.map (Value.int .i64))
  ss : Sl w.heap.size X 83 5 m.s.v q.subs.length (sbF q.subs)
  fs : Sl w.heap.size X 9 1 m.f.v q.filters.length (q.filters.map Value.string)
theorem Lst.same {w X Y : World} {q : Pk} {m : Hs} (h : Lst w q m X) (hk : ∀ (e : TypeId) (size : Nat) v n xs, Sl w.heap.size X e size v n xs → (e = 3 ∨ e = 83 ∨ e = 9) → Sl w.heap.size Y e size v n xs) : Lst w q m Y :=
  ⟨hk _ _ _ _ _ h.cs (.inl rfl), hk _ _ _ _ _ h.ss (.inr (.inl rfl)), hk _ _ _ _ _ h.fs (.inr (.inr rfl))⟩
theorem Lst.below {w X Y : World} {q : Pk} {m : Hs} (h : Lst w q m X) (b : Below X.heap.size X Y) : Lst w q m Y := h.same fun _ _ _ _ _ s _ => s.below b
theorem Lst.row {w X : World} {q : Pk} {m : Hs} {T : TypeId} {g : Nat} {cs : Array Value} (h : Lst w q m X) (hb : Blk X g cs T) (hT : T = 118 ∨ T = 52) (cs' : Array Value) : Lst w q m (X.setRow g cs') :=
  h.same (fun e size v n xs hs he => hs.same fun k hk => setRow_other X g k cs' (fun c => hs.ne hb (by rcases hT with rfl | rfl <;> rcases he with rfl | rfl | rfl <;> decide) (by rw [hk, c])))
theorem Lst.cell {w X : World} {q : Pk} {m : Hs} {T : TypeId} {g : Nat} {cs : Array Value} (h : Lst w q m X) (hb : Blk X g cs T) (hT : T = 118 ∨ T = 52) (i : Nat) (u : Value) : Lst w q m (X.setCell ⟨g, i, none⟩ u) :=
  h.same (fun e size v n xs hs he => hs.set i u (hs.ne hb (by rcases hT with rfl | rfl <;> rcases he with rfl | rfl | rfl <;> decide)))
theorem Lst.keep {w X : World} {p q : Pk} {m m' : Hs} (h : Lst w p m X) (e : q.codes = p.codes ∧ q.subs = p.subs ∧ q.filters = p.filters) (e' : m'.c = m.c ∧ m'.s = m.s ∧ m'.f = m.f) : Lst w q m' X := by
  obtain ⟨e1, e2, e3⟩ := e
  obtain ⟨f1, f2, f3⟩ := e'
  exact ⟨by rw [e1, f1]; exact h.cs, by rw [e2, f2]; exact h.ss, by rw [e3, f3]; exact h.fs⟩
theorem Lst.nil (w X : World) (q : Pk) (m : Hs) (h : q.codes = [] ∧ q.subs = [] ∧ q.filters = []) (hm : m.c = nHd ∧ m.s = nHd ∧ m.f = nHd) : Lst w q m X := by
  obtain ⟨e1, e2, e3⟩ := h
  obtain ⟨f1, f2, f3⟩ := hm
  exact ⟨by rw [e1, f1]; exact Sl.nil _ _ _ _, by rw [e2, f2]; exact Sl.nil _ _ _ _, by rw [e3, f3]; exact Sl.nil _ _ _ _⟩
/-- A list grows. -/
theorem Dw.grown {B : Nat} {w X Y : World} {s : ByteArray} {t : Tt} {p : Pk} {m : Hs} {e : TypeId} {sz n : Nat} {v : Value} {xs : List Value} (h : Dw B w s t p m X) (hl : Lst w p m X) (ho : Sl w.heap.size X e sz v n xs) (he : e = 3 ∨ e = 83 ∨ e = 9) (hg : X.grownBy Y v.ownBlock) :
    (∀ (q : Pk) (mq : Hs), PkD B Y q mq → q = p → mq = m → Dw B w s t p m Y) ∧ Below w.heap.size w Y ∧ Blk Y w.heap.size (inA s t.1 t.2) 118 ∧ Blk Y (w.heap.size + 1) (pkA .i64 p m) 52 ∧ Blk Y (w.heap.size + 2) (inA eS 0 0) 118 ∧ Blk Y (w.heap.size + 3) (pkA .i64 zPk nHs) 52 ∧
      (∀ (e' : TypeId) (size : Nat) (B' : Nat) v' n' xs', e' ≠ e → Sl B' X e' size v' n' xs' → Sl B' Y e' size v' n' xs') := by
  have bl := Below.grown h.bl hg h.bl.size (fun k hk => (ho.lt k hk).1)
  have k0 := h.r.grown hg (ho.ne h.r (by rcases he with rfl | rfl | rfl <;> decide))
  have k1 := h.k.grown hg (ho.ne h.k (by rcases he with rfl | rfl | rfl <;> decide))
  have k2 := h.q.grown hg (ho.ne h.q (by rcases he with rfl | rfl | rfl <;> decide))
  have k3 := h.z.grown hg (ho.ne h.z (by rcases he with rfl | rfl | rfl <;> decide))
  refine ⟨fun q mq hd e1 e2 => ?_, bl, k0, k1, k2, k3, fun e' size B' v' n' xs' hne hs => hs.grown hg (fun k hk c => ho.ne2 hs (fun c' => hne c'.symm) k c hk)⟩
  subst e1 e2
  exact ⟨bl, k0, k1, k2, k3, hd, h.hB⟩
theorem items_stop {s : ByteArray} {f : Nat} {p : Pk} {t : Tt} (h : ¬ (t.2 = 0 ∧ t.1 < s.size)) : dItems s f p t = (t, p) := by
  cases f with
  | zero => unfold dItems; rw [if_neg h]
  | succ f => unfold dItems; rw [if_neg h]
theorem items_full {s : ByteArray} {p : Pk} {a : Int} (h : a < s.size) : dItems s 0 p (a, 0) = ((a, 149), p) := by unfold dItems; rw [if_pos ⟨rfl, h⟩]; rfl
theorem items_go {s : ByteArray} {f : Nat} {p : Pk} {a : Int} (h : a < s.size) : dItems s (f + 1) p (a, 0) = dItems s f (dItem s p (a, 0)).2 (dItem s p (a, 0)).1 := by
  conv => lhs; unfold dItems
  rw [if_pos ⟨rfl, h⟩]
theorem dsub_rg {s : ByteArray} {t : Tt} (h : Rg s t) : Rg s (dSub s t).1 := by
  unfold dSub sub1 sub2
  simp only
  have h1 := dNum_rg (k := 1) (dText_rg h)
  split
  · split
    · exact dFail_rg (dFail_rg h1)
    · exact dFail_rg h1
  · split
    · exact dFail_rg h1
    · exact h1
theorem sbF_snoc (l : List Sb) (x : Sb) : sbF (l ++ [x]) = sbF l ++ (sbA x).toList := by unfold sbF; simp
theorem Dw.push_subs {B : Nat} {w X Y : World} {s : ByteArray} {t : Tt} {p : Pk} {m : Hs} {x : Sb} {hd : Hd} (h : Dw B w s t p m X) (hl : Lst w p m X) (q1 : Sl w.heap.size Y 83 5 hd.v (p.subs.length + 1) (sbF p.subs ++ (sbA x).toList)) (hg : X.grownBy Y m.s.v.ownBlock) :
    Blk Y (w.heap.size + 1) (pkA .i64 p m) 52 ∧ Dw B w s t ({ p with subs := p.subs ++ [x] } : Pk) ({ m with s := hd } : Hs) (Y.setCell ⟨w.heap.size + 1, 24, none⟩ hd.v) ∧ Lst w ({ p with subs := p.subs ++ [x] } : Pk) ({ m with s := hd } : Hs) (Y.setCell ⟨w.heap.size + 1, 24, none⟩ hd.v) := by
  obtain ⟨-, bl, k0, k1, k2, k3, far⟩ := h.grown hl hl.ss (by first | exact .inl rfl | exact .inr (.inl rfl) | exact .inr (.inr rfl)) hg
  have q2 : Sl w.heap.size Y 83 5 hd.v (p.subs ++ [x]).length (sbF (p.subs ++ [x])) := by
    have e : (p.subs ++ [x]).length = p.subs.length + 1 := by simp
    rw [e]
    first | exact q1 | (rw [sbF_snoc]; exact q1) | (rw [List.map_append]; exact q1)
  have set : ∀ {e : TypeId} {sz B' n : Nat} {v : Value} {xs : List Value}, 52 ≠ e → Sl B' Y e sz v n xs → Sl B' (Y.setCell ⟨w.heap.size + 1, 24, none⟩ hd.v) e sz v n xs := fun hne hs => hs.set 24 hd.v (hs.ne k1 hne)
  refine ⟨k1, ⟨bl.setCell (by show w.heap.size ≤ w.heap.size + 1; omega) _, k0.other (by omega) _ _, k1.set 24 hd.v, k2.other (by omega) _ _, k3.other (by omega) _ _, ?_, h.hB⟩, ?_⟩
  · exact ⟨set (by decide) (far _ _ _ _ _ _ (by decide) h.d.ps), set (by decide) (far _ _ _ _ _ _ (by decide) h.d.wps), set (by decide) (far _ _ _ _ _ _ (by decide) h.d.cs), (set (by decide) q2).mono' h.hB, set (by decide) (far _ _ _ _ _ _ (by decide) h.d.fs)⟩
  · exact ⟨set (by decide) (far _ _ _ _ _ _ (by decide) hl.cs), set (by decide) q2, set (by decide) (far _ _ _ _ _ _ (by decide) hl.fs)⟩
theorem Dw.push_filters {B : Nat} {w X Y : World} {s : ByteArray} {t : Tt} {p : Pk} {m : Hs} {x : ByteArray} {hd : Hd} (h : Dw B w s t p m X) (hl : Lst w p m X) (q1 : Sl w.heap.size Y 9 1 hd.v (p.filters.length + 1) (p.filters.map Value.string ++ [Value.string x])) (hg : X.grownBy Y m.f.v.ownBlock) :
    Blk Y (w.heap.size + 1) (pkA .i64 p m) 52 ∧ Dw B w s t ({ p with filters := p.filters ++ [x] } : Pk) ({ m with f := hd } : Hs) (Y.setCell ⟨w.heap.size + 1, 25, none⟩ hd.v) ∧ Lst w ({ p with filters := p.filters ++ [x] } : Pk) ({ m with f := hd } : Hs) (Y.setCell ⟨w.heap.size + 1, 25, none⟩ hd.v) := by
  obtain ⟨-, bl, k0, k1, k2, k3, far⟩ := h.grown hl hl.fs (by first | exact .inl rfl | exact .inr (.inl rfl) | exact .inr (.inr rfl)) hg
  have q2 : Sl w.heap.size Y 9 1 hd.v (p.filters ++ [x]).length ((p.filters ++ [x]).map Value.string) := by
    have e : (p.filters ++ [x]).length = p.filters.length + 1 := by simp
    rw [e]
    first | exact q1 | (rw [sbF_snoc]; exact q1) | (rw [List.map_append]; exact q1)
  have set : ∀ {e : TypeId} {sz B' n : Nat} {v : Value} {xs : List Value}, 52 ≠ e → Sl B' Y e sz v n xs → Sl B' (Y.setCell ⟨w.heap.size + 1, 25, none⟩ hd.v) e sz v n xs := fun hne hs => hs.set 25 hd.v (hs.ne k1 hne)
  refine ⟨k1, ⟨bl.setCell (by show w.heap.size ≤ w.heap.size + 1; omega) _, k0.other (by omega) _ _, k1.set 25 hd.v, k2.other (by omega) _ _, k3.other (by omega) _ _, ?_, h.hB⟩, ?_⟩
  · exact ⟨set (by decide) (far _ _ _ _ _ _ (by decide) h.d.ps), set (by decide) (far _ _ _ _ _ _ (by decide) h.d.wps), set (by decide) (far _ _ _ _ _ _ (by decide) h.d.cs), set (by decide) (far _ _ _ _ _ _ (by decide) h.d.ss), (set (by decide) q2).mono' h.hB⟩
  · exact ⟨set (by decide) (far _ _ _ _ _ _ (by decide) hl.cs), set (by decide) (far _ _ _ _ _ _ (by decide) hl.ss), set (by decide) q2⟩
theorem Dw.push_codes {B : Nat} {w X Y : World} {s : ByteArray} {t : Tt} {p : Pk} {m : Hs} {x : Int} {hd : Hd} (h : Dw B w s t p m X) (hl : Lst w p m X) (q1 : Sl w.heap.size Y 3 1 hd.v (p.codes.length + 1) (p.codes.map (Value.int .i64) ++ [Value.int .i64 x])) (hg : X.grownBy Y m.c.v.ownBlock) :
    Blk Y (w.heap.size + 1) (pkA .i64 p m) 52 ∧ Dw B w s t ({ p with codes := p.codes ++ [x] } : Pk) ({ m with c := hd } : Hs) (Y.setCell ⟨w.heap.size + 1, 8, none⟩ hd.v) ∧ Lst w ({ p with codes := p.codes ++ [x] } : Pk) ({ m with c := hd } : Hs) (Y.setCell ⟨w.heap.size + 1, 8, none⟩ hd.v) := by
  obtain ⟨-, bl, k0, k1, k2, k3, far⟩ := h.grown hl hl.cs (by first | exact .inl rfl | exact .inr (.inl rfl) | exact .inr (.inr rfl)) hg
  have q2 : Sl w.heap.size Y 3 1 hd.v (p.codes ++ [x]).length ((p.codes ++ [x]).map (Value.int .i64)) := by
    have e : (p.codes ++ [x]).length = p.codes.length + 1 := by simp
    rw [e]
    first | exact q1 | (rw [sbF_snoc]; exact q1) | (rw [List.map_append]; exact q1)
  have set : ∀ {e : TypeId} {sz B' n : Nat} {v : Value} {xs : List Value}, 52 ≠ e → Sl B' Y e sz v n xs → Sl B' (Y.setCell ⟨w.heap.size + 1, 8, none⟩ hd.v) e sz v n xs := fun hne hs => hs.set 8 hd.v (hs.ne k1 hne)
  refine ⟨k1, ⟨bl.setCell (by show w.heap.size ≤ w.heap.size + 1; omega) _, k0.other (by omega) _ _, k1.set 8 hd.v, k2.other (by omega) _ _, k3.other (by omega) _ _, ?_, h.hB⟩, ?_⟩
  · exact ⟨set (by decide) (far _ _ _ _ _ _ (by decide) h.d.ps), set (by decide) (far _ _ _ _ _ _ (by decide) h.d.wps), (set (by decide) q2).mono' h.hB, set (by decide) (far _ _ _ _ _ _ (by decide) h.d.ss), set (by decide) (far _ _ _ _ _ _ (by decide) h.d.fs)⟩
  · exact ⟨set (by decide) q2, set (by decide) (far _ _ _ _ _ _ (by decide) hl.ss), set (by decide) (far _ _ _ _ _ _ (by decide) hl.fs)⟩
theorem two_temps (X : World) (s : ByteArray) (a c : Int) (x : Sb) (V1 V2 : World)
    (h1 : ((X.alloc (.cells #[.string ⟨#[]⟩, .int .i64 0, .int .i64 0] 118)).alloc (.cells #[.string ⟨#[]⟩, .int .i64 0, .bool false, .bool false, .int .i64 0] 83)).setRow X.heap.size (inA s a c) = V1) (h2 : V1.setRow (X.heap.size + 1) (sbA x) = V2) :
    Blk ((X.alloc (.cells #[.string ⟨#[]⟩, .int .i64 0, .int .i64 0] 118)).alloc (.cells #[.string ⟨#[]⟩, .int .i64 0, .bool false, .bool false, .int .i64 0] 83)) X.heap.size #[.string ⟨#[]⟩, .int .i64 0, .int .i64 0] 118 ∧
    Blk V1 (X.heap.size + 1) #[.string ⟨#[]⟩, .int .i64 0, .bool false, .bool false, .int .i64 0] 83 ∧ Blk V2 X.heap.size (inA s a c) 118 ∧ Blk V2 (X.heap.size + 1) (sbA x) 83 ∧ Below X.heap.size X V2 := by
  have b0 := (Below.refl X.heap.size X).alloc (Nat.le_refl _) (.cells #[.string ⟨#[]⟩, .int .i64 0, .int .i64 0] 118)
  have k0 := (blkAt X #[.string ⟨#[]⟩, .int .i64 0, .int .i64 0] 118 rfl).alloc (.cells #[.string ⟨#[]⟩, .int .i64 0, .bool false, .bool false, .int .i64 0] 83)
  have k1 := blkAt (X.alloc (.cells #[.string ⟨#[]⟩, .int .i64 0, .int .i64 0] 118)) #[.string ⟨#[]⟩, .int .i64 0, .bool false, .bool false, .int .i64 0] 83 (b := X.heap.size + 1) (by simp)
  have b1 := b0.alloc b0.size (.cells #[.string ⟨#[]⟩, .int .i64 0, .bool false, .bool false, .int .i64 0] 83)
  subst h2
  subst h1
  have k1' := k1.row1 (g' := X.heap.size) (by omega) (inA s a c)
  exact ⟨k0, k1', (k0.row0 _).row1 (by omega) _, k1'.row0 _, below_setRow (below_setRow b1 (Nat.le_refl _) _) (by omega) _⟩
set_option maxHeartbeats 16000000 in
set_option maxRecDepth 100000 in
theorem dlists_any (B : Nat) (s : ByteArray) (t : Tt) (p : Pk) (m : Hs) (w : World) (hs : s.size ≤ 140737488351232) (hr : Rg s t) (hB : B ≤ w.heap.size) (hd : PkD B w p m) (hz : p.codes = [] ∧ p.subs = [] ∧ p.filters = []) (hm : m.c = nHd ∧ m.s = nHd ∧ m.f = nHd) :
    Calls Tryd.prog 67 #[.agg (inA s t.1 t.2), .agg (pkA .i64 p m)] w (DwPost B w s (dLists s p t)) := by
  obtain ⟨a, c⟩ := t
  simp only
  have h0 := Dw.new s (a, c) p m hB hd
  obtain ⟨W, hW⟩ : ∃ W, (((w.alloc (.cells (inA s a c) 118)).alloc (.cells (pkA .i64 p m) 52)).alloc (.cells (inA eS 0 0) 118)).alloc (.cells (pkA .i64 zPk nHs) 52) = W := ⟨_, rfl⟩
  rw [hW] at h0
  have H0 := Lib.hid h0
  have HW := Lib.hid (show (((w.alloc (.cells (inA s a c) 118)).alloc (.cells (pkA .i64 p m) 52)).alloc (.cells #[.string ⟨#[]⟩, .int .i64 0, .int .i64 0] 118)).alloc (.cells #[.int .i64 0, .bool false, .bool false, .int .i64 0, .int .i64 0, .string ⟨#[]⟩, .string ⟨#[]⟩, .int .i64 0, .slice none 0 0, .slice none 0 0, .string ⟨#[]⟩, .bool false, .int .i64 0, .bool false, .string ⟨#[]⟩, .string ⟨#[]⟩, .int .i64 0, .bool false, .slice none 0 0, .bool false, .bool false, .string ⟨#[]⟩, .string ⟨#[]⟩, .bool false, .slice none 0 0, .slice none 0 0] 52) = W from hW)
  have HR0 : Hid (Rg s (a, c)) := Lib.hid hr
  clear h0 hW hd hr
  have hBh := hB
  have HZ := Lib.hid hz
  have HM := Lib.hid hm
  clear hz hm
  go_enter Tryd.func67, Tryd.ntmps67
  have C1 := did_any s (a, c) W hs HR0.out
  obtain ⟨⟨⟨a1, c1⟩, n1⟩, e1⟩ : ∃ x, dId s (a, c) = x := ⟨_, rfl⟩
  rw [e1] at C1
  simp only at C1
  have C1 := Lib.hid C1
  have E1 := Lib.hid e1
  clear e1
  go_wp2_with (first | (rw [HW.out]) | (refine wpList_load_row rfl 118 (.tmp 2) rfl (w.heap.size) rfl 118 _ (0, 0) _ H0.out.r Tryd.underlying118 rfl in_size ?_) | (fail))
  refine C1.out.mono ?_
  rintro e w1 ⟨rfl, b1⟩
  have H1 := Lib.hid (H0.out.step b1)
  clear C1
  have HR1 : Hid (Rg s (a1, c1)) := Lib.hid (by have h := dId_rg HR0.out; rw [E1.out] at h; exact h)
  obtain ⟨Z2, hZ2⟩ : ∃ Z, w1.setRow w.heap.size (inA s a1 c1) = Z := ⟨_, rfl⟩
  have h := H1.out.put (a1, c1)
  simp only at h
  rw [hZ2] at h
  have H2 := Lib.hid h
  have HZ2 := Lib.hid hZ2
  clear h hZ2
  have g4 := H2.out.k.cell 4
  have q4 := H2.out.k.frozen 4
  simp only [pkA, List.getElem?_toArray, List.getElem?_cons_zero, List.getElem?_cons_succ] at g4
  obtain ⟨Y3, hY3⟩ : ∃ Y, Z2.setCell ⟨w.heap.size + 1, 4, none⟩ (.int .i64 n1) = Y := ⟨_, rfl⟩
  have h := H2.out.set 4 (.int .i64 n1) (({ p with id := n1 } : Pk)) (m) rfl (H2.out.d.keep ⟨rfl, rfl, rfl, rfl, rfl⟩)
  rw [hY3] at h
  have H3 := Lib.hid h
  clear h
  have k0 : Y3.cell? ⟨w.heap.size + 1, 0, none⟩ = some (.int .i64 p.kind) := H3.out.k.cell 0
  have C4 := dprops_any s (a1, c1) p.kind Y3 hs HR1.out
  obtain ⟨⟨⟨a2, c2⟩, L2⟩, e4⟩ : ∃ x, dProps p.kind s (a1, c1) = x := ⟨_, rfl⟩
  rw [e4] at C4
  simp only at C4
  have C4 := Lib.hid C4
  have E4 := Lib.hid e4
  clear e4
  go_wp2_with (first | (refine wpList_store_rowN rfl 118 (.tmp 2) (.tmp 18) rfl rfl (w.heap.size) (inA s a1 c1) rfl rfl 118 (inA s a c) H1.out.r in_size rfl (in_one _ _ _) Z2 HZ2.out ?_) | (refine wpList_load_row rfl 118 (.tmp 2) rfl (w.heap.size) rfl 118 _ (0, 0) _ H3.out.r Tryd.underlying118 rfl in_size ?_) | (fail))
  refine C4.out.mono ?_
  rintro e w4 ⟨hd2, rfl, hs2, b4⟩
  simp only at hs2 ⊢
  have H4 := Lib.hid (H3.out.step b4)
  have HS2 := Lib.hid hs2
  have lw2 : w.heap.size ≤ Y3.heap.size := H3.out.bl.size
  have lx2 : w.heap.size < Y3.heap.size := H3.out.r.lt
  clear C4 hs2
  have HR4 : Hid (Rg s (a2, c2)) := Lib.hid (by have h := dProps_rg (k := p.kind) HR1.out; rw [E4.out] at h; exact h)
  clear k0
  obtain ⟨Z5, hZ5⟩ : ∃ Z, w4.setRow w.heap.size (inA s a2 c2) = Z := ⟨_, rfl⟩
  have h := H4.out.put (a2, c2)
  simp only at h
  rw [hZ5] at h
  have H5 := Lib.hid h
  have HZ5 := Lib.hid hZ5
  clear h hZ5
  have HS3 : Hid (Sl Y3.heap.size Z5 122 4 hd2.v L2.length (flat L2)) := Lib.hid (by rw [← HZ5.out]; exact HS2.out.same fun k hk => setRow_other _ _ k _ (fun c => absurd c (Nat.ne_of_gt (Nat.lt_of_lt_of_le lx2 (HS2.out.lt k hk).1))))
  have g9 := H5.out.k.cell 9
  have q9 := H5.out.k.frozen 9
  simp only [pkA, List.getElem?_toArray, List.getElem?_cons_zero, List.getElem?_cons_succ] at g9
  obtain ⟨Y6, hY6⟩ : ∃ Y, Z5.setCell ⟨w.heap.size + 1, 9, none⟩ (hd2.v) = Y := ⟨_, rfl⟩
  have h := H5.out.set 9 (hd2.v) (({ ({ p with id := n1 } : Pk) with ps := L2 } : Pk)) (({ m with p := hd2 } : Hs)) rfl (H5.out.d.setPs (B' := Y3.heap.size) HS3.out (Nat.le_trans hBh lw2))
  rw [hY6] at h
  have H6 := Lib.hid h
  clear h
  simp only [Hd.v] at hY6 ⊢
  have EE := Lib.hid (show dLists s p (a, c) = dItems s 64 ({ ({ p with id := n1 } : Pk) with ps := L2 } : Pk) (lst1 s (a2, c2)) by unfold dLists; rw [E1.out]; simp only; rw [E4.out])
  obtain ⟨p2, hp2⟩ : ∃ q : Pk, ({ ({ p with id := n1 } : Pk) with ps := L2 } : Pk) = q := ⟨_, rfl⟩
  obtain ⟨m2, hm2⟩ : ∃ q : Hs, ({ m with p := hd2 } : Hs) = q := ⟨_, rfl⟩
  have hkd : p2.kind = p.kind := by rw [← hp2]
  have hz2 : p2.codes = [] ∧ p2.subs = [] ∧ p2.filters = [] := by rw [← hp2]; exact HZ.out
  have hmm : m2.c = nHd ∧ m2.s = nHd ∧ m2.f = nHd := by rw [← hm2]; exact HM.out
  have HX := H6
  rw [hp2, hm2] at HX
  rw [hp2] at EE
  have HKD := Lib.hid hkd
  have HZ2 := Lib.hid hz2
  have HMM := Lib.hid hmm
  clear hkd hz2 hmm hp2 hm2
  have r0 : Y6.cell? ⟨w.heap.size, 0, none⟩ = some (.string s) := HX.out.r.cell 0
  have r1 : Y6.cell? ⟨w.heap.size, 1, none⟩ = some (.int .i64 a2) := HX.out.r.cell 1
  have r2 : Y6.cell? ⟨w.heap.size, 2, none⟩ = some (.int .i64 c2) := HX.out.r.cell 2
  go_upto_region 5 with (first | (refine wpList_store_rowN rfl 118 (.tmp 2) (.tmp 27) rfl rfl (w.heap.size) (inA s a2 c2) rfl rfl 118 (inA s a1 c1) H4.out.r in_size rfl (in_one _ _ _) Z5 HZ5.out ?_) | (fail))
  obtain ⟨bb, hbb⟩ : ∃ b, decide (c2 = 0 ∧ (s.size : Int) ≤ a2) = b := ⟨_, rfl⟩
  have HBB := Lib.hid hbb
  clear hbb
  go_cut [41] (fun v X => v = .bool bb ∧ Y6 = X)
  case first =>
    by_cases hc : c2 = 0
    · have d1 : (c2 == 0) = true := by simpa using hc
      by_cases hl : (s.size : Int) ≤ a2
      · have d2 : decide ((s.size : Int) ≤ a2) = true := by simpa using hl
        have dd := Lib.hid (show decide (c2 = 0 ∧ (s.size : Int) ≤ a2) = true from decide_eq_true ⟨hc, hl⟩)
        clear hc hl
        go_wp2_with fail
        go_meet
        exact ⟨by rw [← HBB.out, dd.out], rfl⟩
      · have d2 : decide ((s.size : Int) ≤ a2) = false := by simpa using hl
        have dd := Lib.hid (show decide (c2 = 0 ∧ (s.size : Int) ≤ a2) = false from decide_eq_false (fun h => hl h.2))
        clear hc hl
        go_wp2_with fail
        go_meet
        exact ⟨by rw [← HBB.out, dd.out], rfl⟩
    · have d1 : (c2 == 0) = false := beq_eq_false_iff_ne.2 hc
      have dd := Lib.hid (show decide (c2 = 0 ∧ (s.size : Int) ≤ a2) = false from decide_eq_false (fun h => hc h.1))
      clear hc
      go_wp2_with fail
      go_meet
      exact ⟨by rw [← HBB.out, dd.out], rfl⟩
  case rest =>
  obtain ⟨rfl, rfl⟩ := hcut
  have HL2 : Hid (Lst w p2 m2 Y6) := Lib.hid (Lst.nil w _ p2 m2 HZ2.out HMM.out)
  clear r0 r1 r2
  go_upto_if 41 with fail
  go_cut [8] (fun _ X => ∃ c3, Hid (lst1 s (a2, c2) = (a2, c3)) ∧ Hid (Dw B w s (a2, c3) p2 m2 X) ∧ Hid (Lst w p2 m2 X))
  case first =>
    cases bb
    · have hx : lst1 s (a2, c2) = (a2, c2) := by
        have hcc := of_decide_eq_false HBB.out
        unfold lst1
        split
        · rfl
        · rename_i h; exact dFail_stk (fun c => hcc ⟨c, by simp only at h; omega⟩)
      have HX1 := Lib.hid hx
      clear hx
      go_wp2_with fail
      go_meet
      exact ⟨c2, HX1, HX, HL2⟩
    · have hcc := of_decide_eq_true HBB.out
      have hx : lst1 s (a2, c2) = (a2, 130) := by unfold lst1; rw [if_neg (by simp only; omega)]; unfold dFail; rw [if_pos hcc.1]
      have hf : dFail (a2, c2) 130 = (a2, 130) := by unfold dFail; rw [if_pos hcc.1]
      have C := dfail' s (a2, c2) 130 Y6
      rw [hf] at C
      simp only at C
      have C := Lib.hid C
      have HX1 := Lib.hid hx
      clear hcc hx hf
      go_wp2_with (first | (refine wpList_load_row rfl 118 (.tmp 2) rfl (w.heap.size) rfl 118 _ (0, 0) _ HX.out.r Tryd.underlying118 rfl in_size ?_) | (refine wpList_load_row rfl 118 (.tmp 2) rfl (w.heap.size) rfl 118 _ (0, 0) _ HX.out.r Tryd.underlying118 rfl in_size ?_) | (fail))
      refine C.out.mono ?_
      rintro e wf ⟨rfl, bf⟩
      have h := (HX.out.step bf).put (a2, 130)
      have h2 := (HL2.out.below bf).row (HX.out.step bf).r (.inl rfl) (inA s a2 130)
      simp only at h
      obtain ⟨Zf, hZf⟩ : ∃ Z, wf.setRow w.heap.size (inA s a2 130) = Z := ⟨_, rfl⟩
      rw [hZf] at h h2
      have HF := Lib.hid (HX.out.step bf)
      have HF1 := Lib.hid h
      have HF2 := Lib.hid h2
      have HZF := Lib.hid hZf
      clear h h2 hZf bf C
      go_wp2_with (first | (refine wpList_store_rowN rfl 118 (.tmp 2) (.tmp 43) rfl rfl (w.heap.size) (inA s a2 130) rfl rfl 118 (inA s a2 c2) HF.out.r in_size rfl (in_one _ _ _) Zf HZF.out ?_) | (fail))
      go_meet
      exact ⟨130, HX1, HF1, HF2⟩
  case rest =>
  obtain ⟨c3, hE3, hD3, hL3⟩ := hcut
  have ER : Hid (dLists s p (a, c) = dItems s 64 p2 (a2, c3)) := Lib.hid (by rw [EE.out, hE3.out])
  clear hE3 EE HX HL2
  have R3 : Hid (Rg s (a2, c3)) := Lib.hid HR4.out
  go_wp2_with fail
  go_loopw [8, 9, 10, 11, 12, 13, 14] (fun iv _ _ _ _ _ _ wX => ∃ (k f : Nat) (a' c' : Int) (q : Pk) (mq : Hs), iv = .int .i64 k ∧ f + k = 64 ∧ Hid (dLists s p (a, c) = dItems s f q (a', c')) ∧ Hid (Dw B w s (a', c') q mq wX) ∧ Hid (Lst w q mq wX) ∧ Hid (Rg s (a', c')) ∧ Hid (q.codes.length ≤ k ∧ q.subs.length ≤ k ∧ q.filters.length ≤ k)) (fun iv _ _ _ _ _ _ _ => (64 - (intOf iv).toNat))
  case atStart => exact ⟨0, 64, a2, c3, p2, m2, rfl, rfl, ER, hD3, hL3, R3, Lib.hid (by obtain ⟨e1, e2, e3⟩ := HZ2.out; rw [e1, e2, e3]; exact ⟨Nat.le_refl _, Nat.le_refl _, Nat.le_refl _⟩)⟩
  case round => as_aux_lemma =>
    clear hD3 hL3 ER
    obtain ⟨k, f, a', c', q, mq, rfl, hf, hE, hD, hL, hR, hN⟩ := hrel
    have r0 : wr.cell? ⟨w.heap.size, 0, none⟩ = some (.string s) := hD.out.r.cell 0
    have r1 : wr.cell? ⟨w.heap.size, 1, none⟩ = some (.int .i64 a') := hD.out.r.cell 1
    have r2 : wr.cell? ⟨w.heap.size, 2, none⟩ = some (.int .i64 c') := hD.out.r.cell 2
    by_cases hc : c' = 0
    · obtain rfl := hc
      by_cases hl : a' < (s.size : Int)
      · have d2 : decide (a' < (s.size : Int)) = true := by simpa using hl
        have HLT := Lib.hid hl
        clear hl
        by_cases hk : 64 ≤ k
        · obtain rfl : f = 0 := by omega
          obtain rfl : k = 64 := by omega
          have EF := Lib.hid (hE.out.trans (items_full HLT.out))
          have C := dfail' s (a', 0) 149 wr
          rw [show dFail (a', 0) 149 = (a', 149) from rfl] at C
          simp only at C
          have C := Lib.hid C
          go_wp2_with (first | (refine wpList_load_row rfl 118 (.tmp 2) rfl (w.heap.size) rfl 118 _ (0, 0) _ hD.out.r Tryd.underlying118 rfl in_size ?_) | (fail))
          refine C.out.mono ?_
          rintro e wf ⟨rfl, bf⟩
          have HF := Lib.hid (hD.out.step bf)
          clear bf C
          obtain ⟨Z61, hZ61⟩ : ∃ Z, wf.setRow w.heap.size (inA s a' 149) = Z := ⟨_, rfl⟩
          have h := HF.out.put (a', 149)
          simp only at h
          rw [hZ61] at h
          have H61 := Lib.hid h
          have HZ61 := Lib.hid hZ61
          clear h hZ61
          go_wp2_with (first | (refine wpList_store_rowN rfl 118 (.tmp 2) (.tmp 60) rfl rfl (w.heap.size) (inA s a' 149) rfl rfl 118 (inA s a' 0) HF.out.r in_size rfl (in_one _ _ _) Z61 HZ61.out ?_) | (fail))
          obtain ⟨sA, sB, sC, kq, kz, z2, z3, kd, kb⟩ := ret_end (t := (a', 149)) (p := q) (m := mq) H61.out H61.out.r (by omega) (by omega)
          simp only at sA sB sC kq kz z2 z3 kd kb
          refine wp_region_held (S := fun w' => SRet (w.heap.size) (w.heap.size + 1) s (a', 149) (q) (mq) w') (by kernel_rfl) ?_
          change wpAnyH _ _ _ _ _ _ _ _ Z61.drew
          refine wpAnyH_takeD (i := 0) (d := 61) (v := .agg (inA s a' 149)) rfl rfl (by kernel_rfl) (by kernel_rfl) (by kernel_rfl) (fun _ _ _ h => h) (y_load _ rfl rfl rfl (fun w hw => run_loadAt_row w _ _ _ _ _ _ hw.1 Tryd.underlying118 rfl in_size)) sA ?_
          simp only [Act.put, List.setIfInBounds_toArray, List.set_cons_succ, List.set_cons_zero]
          refine wpAnyH_takeD (i := 1) (d := 62) (v := .agg (pkA .i64 (q) (mq))) rfl rfl (by kernel_rfl) (by kernel_rfl) (by kernel_rfl) (fun _ _ _ h => h) (y_load _ rfl rfl rfl (fun w hw => run_loadAt_row w _ _ _ _ _ _ hw.2 Tryd.underlying52 rfl dpk_size)) sA ?_
          simp only [Act.put, List.setIfInBounds_toArray, List.set_cons_succ, List.set_cons_zero]
          refine two_store (k := 2) (l := 3) (dx := 4) (dy := 5) (vx := 61) (vy := 62) (bx := w.heap.size + 2) (by' := w.heap.size + 3) (cx := inA s a' 149) (cy := pkA .i64 (q) (mq)) _ _ rfl rfl rfl rfl rfl rfl rfl rfl (by kernel_rfl) (by kernel_rfl) (by kernel_rfl) rfl rfl rfl rfl kq kz (by omega) in_size dpk_size rfl rfl (in_one _ _ _) (dpk_one _ _) sB sC ?_
          go_wp2_with fail
          refine bodyPost_ret (v := .tuple #[.agg (inA s a' 149), .agg (pkA .i64 (q) (mq))]) (results_two_rows (P := Tryd.prog) (t1 := 4) (t2 := 5) (ty1 := 118) (ty2 := 52) (by kernel_rfl) _ _ (w.heap.size + 2) (w.heap.size + 3) 118 52 _ _ _ _ rfl rfl z2 z3 Tryd.underlying118 rfl in_size Tryd.underlying52 rfl dpk_size) rfl ?_
          exact dwPost_mk (a := a') (c := 149) (p := q) (m := mq) (EF.out) kd kb
        · obtain ⟨f', rfl⟩ : ∃ g, f = g + 1 := ⟨f - 1, by omega⟩
          have hk2 : (k : Int) < 64 := by omega
          have EG := Lib.hid (hE.out.trans (items_go HLT.out))
          have k0 : wr.cell? ⟨w.heap.size + 1, 0, none⟩ = some (.int .i64 q.kind) := hD.out.k.cell 0
          by_cases h8 : q.kind = 8
          · have t8 : (q.kind == 8) = true := by simpa using h8
            have EI := Lib.hid (show dItem s q (a', 0) = ((dSub s (a', 0)).1, ({ q with subs := q.subs ++ [(dSub s (a', 0)).2] } : Pk)) by unfold dItem; rw [if_pos h8])
            clear h8
            have C71 := dsub_any s (a', 0) wr hs hR.out
            obtain ⟨⟨⟨a1, c1⟩, x⟩, e71⟩ : ∃ x, dSub s (a', 0) = x := ⟨_, rfl⟩
            rw [e71] at C71
            simp only at C71
            have C71 := Lib.hid C71
            have E71 := Lib.hid e71
            clear e71
            go_wp2_with (first | (refine wpList_load_row rfl 118 (.tmp 2) rfl (w.heap.size) rfl 118 _ (0, 0) _ hD.out.r Tryd.underlying118 rfl in_size ?_) | (fail))
            refine C71.out.mono ?_
            rintro e w71 ⟨rfl, b71⟩
            have H71 := Lib.hid (hD.out.step b71)
            clear C71
            have HR71 : Hid (Rg s (a1, c1)) := Lib.hid (by have h := dsub_rg hR.out; rw [E71.out] at h; exact h)
            have L1 := Lib.hid (hL.out.below b71)
            clear r0 r1 r2 k0
            have bA : w.heap.size + 3 < w71.heap.size := H71.out.z.lt
            obtain ⟨V1, hV1⟩ : ∃ V, ((w71.alloc (.cells #[.string ⟨#[]⟩, .int .i64 0, .int .i64 0] 118)).alloc (.cells #[.string ⟨#[]⟩, .int .i64 0, .bool false, .bool false, .int .i64 0] 83)).setRow w71.heap.size (inA s a1 c1) = V := ⟨_, rfl⟩
            obtain ⟨V2, hV2⟩ : ∃ V, V1.setRow (w71.heap.size + 1) (sbA x) = V := ⟨_, rfl⟩
            have TT := Lib.hid (two_temps w71 s a1 c1 x V1 V2 hV1 hV2)
            have HV1 := Lib.hid hV1
            have HV2 := Lib.hid hV2
            have HD2 := Lib.hid (H71.out.step TT.out.2.2.2.2)
            have L2 := Lib.hid (L1.out.below TT.out.2.2.2.2)
            clear hV1 hV2
            obtain ⟨Z72, hZ72⟩ : ∃ Z, V2.setRow w.heap.size (inA s a1 c1) = Z := ⟨_, rfl⟩
            have h := HD2.out.put (a1, c1)
            simp only at h
            rw [hZ72] at h
            have H72 := Lib.hid h
            have HZ72 := Lib.hid hZ72
            clear h hZ72
            have L3 : Hid (Lst w q mq Z72) := Lib.hid (by rw [← HZ72.out]; exact L2.out.row HD2.out.r (.inl rfl) _)
            have KS : Hid (Blk Z72 (w71.heap.size + 1) (sbA x) 83) := Lib.hid (by rw [← HZ72.out]; exact TT.out.2.2.2.1.row1 (by omega) _)
            have gc := H72.out.k.cell 24
            simp only [pkA, List.getElem?_toArray, List.getElem?_cons_zero, List.getElem?_cons_succ] at gc
            have kE := blkAt Z72 (#[.string x.f, .int .i64 x.q, .bool x.nl, .bool x.ap, .int .i64 x.h] : Array Value) 83 rfl
            have bE := (Below.refl Z72.heap.size Z72).alloc (Nat.le_refl _) (.cells #[.string x.f, .int .i64 x.q, .bool x.nl, .bool x.ap, .int .i64 x.h] 83)
            obtain ⟨E, hE2⟩ : ∃ V, Z72.alloc (.cells #[.string x.f, .int .i64 x.q, .bool x.nl, .bool x.ap, .int .i64 x.h] 83) = V := ⟨_, rfl⟩
            rw [hE2] at kE bE
            have HKE := Lib.hid kE
            have HDE := Lib.hid (H72.out.step bE)
            have LE := Lib.hid (L3.out.below bE)
            have hnn := hN.out
            have hbw : w.heap.size ≤ E.heap.size := HDE.out.bl.size
            clear kE bE
            go_wp2_with (first | (refine wpList_store_rowN rfl 118 (.tmp 9) (.tmp 82) rfl rfl (w71.heap.size) (inA s a1 c1) rfl rfl 118 (#[.string ⟨#[]⟩, .int .i64 0, .int .i64 0]) TT.out.1 in_size rfl (in_one _ _ _) V1 HV1.out ?_) | (refine wpList_store_rowN rfl 83 (.tmp 10) (.tmp 83) rfl rfl (w71.heap.size + 1) (sbA x) rfl rfl 83 #[.string ⟨#[]⟩, .int .i64 0, .bool false, .bool false, .int .i64 0] TT.out.2.1 dsb_size rfl (dsb_one _) V2 HV2.out ?_) | (refine wpList_load_row rfl 118 (.tmp 9) rfl (w71.heap.size) rfl 118 _ (0, 0) _ TT.out.2.2.1 Tryd.underlying118 rfl in_size ?_) | (refine wpList_store_rowN rfl 118 (.tmp 2) (.tmp 84) rfl rfl (w.heap.size) (inA s a1 c1) rfl rfl 118 (inA s a' 0) HD2.out.r in_size rfl (in_one _ _ _) Z72 HZ72.out ?_) | (refine wpList_load_row rfl 83 (.tmp 10) rfl (w71.heap.size + 1) rfl 83 #[.string x.f, .int .i64 x.q, .bool x.nl, .bool x.ap, .int .i64 x.h] (0, 0) _ KS.out Tryd.underlying83 rfl dsb_size ?_) | (at_builtin; refine wpList_dapp info_dsb Tryd.underlying50 rfl (by decide) (by decide) (.tmp 86) (.tmp 88) w.heap.size q.subs.length mq.s.v (sbF q.subs) #[.string x.f, .int .i64 x.q, .bool x.nl, .bool x.ap, .int .i64 x.h] Z72.heap.size rfl rfl rfl rfl LE.out.ss HKE.out rfl (by intro u hu; simp at hu; rcases hu with rfl | rfl | rfl | rfl | rfl <;> rfl) hbw (by omega) ?_) | (fail))
            intro hd' w9 q1 qn q2
            have PP := HDE.out.push_subs (x := x) (hd := hd') LE.out q1 q2
            obtain ⟨pk9, pd9, pl9⟩ := PP
            obtain ⟨Y9, hY9⟩ : ∃ Y, w9.setCell ⟨w.heap.size + 1, 24, none⟩ hd'.v = Y := ⟨_, rfl⟩
            rw [hY9] at pd9 pl9
            have g9 := pk9.cell 24
            have f9 := pk9.frozen 24
            simp only [pkA, List.getElem?_toArray, List.getElem?_cons_zero, List.getElem?_cons_succ] at g9
            have HD9 := Lib.hid pd9
            have HL9 := Lib.hid pl9
            have EJ := Lib.hid (show dLists s p (a, c) = dItems s f' ({ q with subs := q.subs ++ [x] } : Pk) (a1, c1) by rw [EG.out, EI.out, E71.out])
            simp only [Hd.v] at hY9 ⊢
            clear q1 qn q2 pk9 pd9 pl9 hE2 gc
            go_wp2_with fail
            go_roundw
            case rel => exact ⟨k + 1, f', a1, c1, ({ q with subs := q.subs ++ [x] } : Pk), ({ mq with s := hd' } : Hs), by go_num, by omega, EJ, HD9, HL9, HR71, Lib.hid (by obtain ⟨n1, n2, n3⟩ := hnn; refine ⟨?_, ?_, ?_⟩ <;> (try rw [List.length_append]) <;> simp <;> omega)⟩
            case measure => simp [intOf]; omega
          have t8 : (q.kind == 8) = false := beq_eq_false_iff_ne.2 h8
          by_cases h10 : q.kind = 10
          · have t10 : (q.kind == 10) = true := by simpa using h10
            have EI := Lib.hid (show dItem s q (a', 0) = ((dText s (a', 0)).1, ({ q with filters := q.filters ++ [(dText s (a', 0)).2] } : Pk)) by unfold dItem; rw [if_neg h8, if_pos h10])
            clear h8 h10
            have C71 := dtext' s (a', 0) wr hs hR.out
            obtain ⟨⟨⟨a1, c1⟩, x⟩, e71⟩ : ∃ x, dText s (a', 0) = x := ⟨_, rfl⟩
            rw [e71] at C71
            simp only at C71
            have C71 := Lib.hid C71
            have E71 := Lib.hid e71
            clear e71
            go_wp2_with (first | (refine wpList_load_row rfl 118 (.tmp 2) rfl (w.heap.size) rfl 118 _ (0, 0) _ hD.out.r Tryd.underlying118 rfl in_size ?_) | (fail))
            refine C71.out.mono ?_
            rintro e w71 ⟨rfl, b71⟩
            have H71 := Lib.hid (hD.out.step b71)
            clear C71
            have HR71 : Hid (Rg s (a1, c1)) := Lib.hid (by have h := dText_rg hR.out; rw [E71.out] at h; exact h)
            have L1 := Lib.hid (hL.out.below b71)
            clear r0 r1 r2 k0
            have kV := blkAt w71 (#[.string ⟨#[]⟩, .int .i64 0, .int .i64 0] : Array Value) 118 rfl
            have bV := below_setRow ((Below.refl w71.heap.size w71).alloc (Nat.le_refl _) (.cells #[.string ⟨#[]⟩, .int .i64 0, .int .i64 0] 118)) (Nat.le_refl _) (inA s a1 c1)
            have kV2 := kV.row0 (inA s a1 c1)
            obtain ⟨V72, hV⟩ : ∃ V, (w71.alloc (.cells #[.string ⟨#[]⟩, .int .i64 0, .int .i64 0] 118)).setRow w71.heap.size (inA s a1 c1) = V := ⟨_, rfl⟩
            rw [hV] at kV2 bV
            have HV72 := Lib.hid hV
            have KW72 := Lib.hid kV
            have KV72 := Lib.hid kV2
            have BV72 := Lib.hid bV
            have H72 := Lib.hid (H71.out.step bV)
            have lV72 : w.heap.size + 3 < w71.heap.size := H71.out.z.lt
            clear kV kV2 bV hV
            have L2 := Lib.hid (L1.out.below BV72.out)
            obtain ⟨Z73, hZ73⟩ : ∃ Z, V72.setRow w.heap.size (inA s a1 c1) = Z := ⟨_, rfl⟩
            have h := H72.out.put (a1, c1)
            simp only at h
            rw [hZ73] at h
            have H73 := Lib.hid h
            have HZ73 := Lib.hid hZ73
            clear h hZ73
            have L3 : Hid (Lst w q mq Z73) := Lib.hid (by rw [← HZ73.out]; exact L2.out.row H72.out.r (.inl rfl) _)
            have gc := H73.out.k.cell 25
            simp only [pkA, List.getElem?_toArray, List.getElem?_cons_zero, List.getElem?_cons_succ] at gc
            have kE := blkAt Z73 (#[.string x] : Array Value) 9 rfl
            have bE := (Below.refl Z73.heap.size Z73).alloc (Nat.le_refl _) (.cells #[.string x] 9)
            obtain ⟨E, hE2⟩ : ∃ V, Z73.alloc (.cells #[.string x] 9) = V := ⟨_, rfl⟩
            rw [hE2] at kE bE
            have HKE := Lib.hid kE
            have HDE := Lib.hid (H73.out.step bE)
            have LE := Lib.hid (L3.out.below bE)
            have hnn := hN.out
            have hbw : w.heap.size ≤ E.heap.size := HDE.out.bl.size
            clear kE bE
            go_wp2_with (first | (refine wpList_store_rowN rfl 118 (.tmp 11) (.tmp 96) rfl rfl (w71.heap.size) (inA s a1 c1) rfl rfl 118 (#[.string ⟨#[]⟩, .int .i64 0, .int .i64 0]) KW72.out in_size rfl (in_one _ _ _) V72 HV72.out ?_) | (refine wpList_load_row rfl 118 (.tmp 11) rfl (w71.heap.size) rfl 118 _ (0, 0) _ KV72.out Tryd.underlying118 rfl in_size ?_) | (refine wpList_store_rowN rfl 118 (.tmp 2) (.tmp 98) rfl rfl (w.heap.size) (inA s a1 c1) rfl rfl 118 (inA s a' 0) H72.out.r in_size rfl (in_one _ _ _) Z73 HZ73.out ?_) | (at_builtin; refine wpList_dapp info_dstr Tryd.underlying22 rfl (by decide) (by decide) (.tmp 100) (.tmp 102) w.heap.size q.filters.length mq.f.v (q.filters.map Value.string) #[.string x] Z73.heap.size rfl rfl rfl rfl LE.out.fs HKE.out rfl (by intro u hu; simp at hu; subst hu; rfl) hbw (by omega) ?_) | (fail))
            intro hd' w9 q1 qn q2
            have PP := HDE.out.push_filters (x := x) (hd := hd') LE.out q1 q2
            obtain ⟨pk9, pd9, pl9⟩ := PP
            obtain ⟨Y9, hY9⟩ : ∃ Y, w9.setCell ⟨w.heap.size + 1, 25, none⟩ hd'.v = Y := ⟨_, rfl⟩
            rw [hY9] at pd9 pl9
            have g9 := pk9.cell 25
            have f9 := pk9.frozen 25
            simp only [pkA, List.getElem?_toArray, List.getElem?_cons_zero, List.getElem?_cons_succ] at g9
            have HD9 := Lib.hid pd9
            have HL9 := Lib.hid pl9
            have EJ := Lib.hid (show dLists s p (a, c) = dItems s f' ({ q with filters := q.filters ++ [x] } : Pk) (a1, c1) by rw [EG.out, EI.out, E71.out])
            simp only [Hd.v] at hY9 ⊢
            clear q1 qn q2 pk9 pd9 pl9 hE2 gc
            go_wp2_with fail
            go_roundw
            case rel => exact ⟨k + 1, f', a1, c1, ({ q with filters := q.filters ++ [x] } : Pk), ({ mq with f := hd' } : Hs), by go_num, by omega, EJ, HD9, HL9, HR71, Lib.hid (by obtain ⟨n1, n2, n3⟩ := hnn; refine ⟨?_, ?_, ?_⟩ <;> (try rw [List.length_append]) <;> simp <;> omega)⟩
            case measure => simp [intOf]; omega
          have t10 : (q.kind == 10) = false := beq_eq_false_iff_ne.2 h10
          have EI := Lib.hid (show dItem s q (a', 0) = ((dNum s 1 (a', 0)).1, ({ q with codes := q.codes ++ [(dNum s 1 (a', 0)).2] } : Pk)) by unfold dItem; rw [if_neg h8, if_neg h10])
          clear h8 h10
          have C71 := dnum' s 1 (a', 0) wr hs hR.out
          obtain ⟨⟨⟨a1, c1⟩, x⟩, e71⟩ : ∃ x, dNum s 1 (a', 0) = x := ⟨_, rfl⟩
          rw [e71] at C71
          simp only at C71
          have C71 := Lib.hid C71
          have E71 := Lib.hid e71
          clear e71
          go_wp2_with (first | (refine wpList_load_row rfl 118 (.tmp 2) rfl (w.heap.size) rfl 118 _ (0, 0) _ hD.out.r Tryd.underlying118 rfl in_size ?_) | (fail))
          refine C71.out.mono ?_
          rintro e w71 ⟨rfl, b71⟩
          have H71 := Lib.hid (hD.out.step b71)
          clear C71
          have HR71 : Hid (Rg s (a1, c1)) := Lib.hid (by have h := dNum_rg (k := 1) hR.out; rw [E71.out] at h; exact h)
          have L1 := Lib.hid (hL.out.below b71)
          clear r0 r1 r2 k0
          have kV := blkAt w71 (#[.string ⟨#[]⟩, .int .i64 0, .int .i64 0] : Array Value) 118 rfl
          have bV := below_setRow ((Below.refl w71.heap.size w71).alloc (Nat.le_refl _) (.cells #[.string ⟨#[]⟩, .int .i64 0, .int .i64 0] 118)) (Nat.le_refl _) (inA s a1 c1)
          have kV2 := kV.row0 (inA s a1 c1)
          obtain ⟨V72, hV⟩ : ∃ V, (w71.alloc (.cells #[.string ⟨#[]⟩, .int .i64 0, .int .i64 0] 118)).setRow w71.heap.size (inA s a1 c1) = V := ⟨_, rfl⟩
          rw [hV] at kV2 bV
          have HV72 := Lib.hid hV
          have KW72 := Lib.hid kV
          have KV72 := Lib.hid kV2
          have BV72 := Lib.hid bV
          have H72 := Lib.hid (H71.out.step bV)
          have lV72 : w.heap.size + 3 < w71.heap.size := H71.out.z.lt
          clear kV kV2 bV hV
          have L2 := Lib.hid (L1.out.below BV72.out)
          obtain ⟨Z73, hZ73⟩ : ∃ Z, V72.setRow w.heap.size (inA s a1 c1) = Z := ⟨_, rfl⟩
          have h := H72.out.put (a1, c1)
          simp only at h
          rw [hZ73] at h
          have H73 := Lib.hid h
          have HZ73 := Lib.hid hZ73
          clear h hZ73
          have L3 : Hid (Lst w q mq Z73) := Lib.hid (by rw [← HZ73.out]; exact L2.out.row H72.out.r (.inl rfl) _)
          have gc := H73.out.k.cell 8
          simp only [pkA, List.getElem?_toArray, List.getElem?_cons_zero, List.getElem?_cons_succ] at gc
          have kE := blkAt Z73 (#[.int .i64 x] : Array Value) 3 rfl
          have bE := (Below.refl Z73.heap.size Z73).alloc (Nat.le_refl _) (.cells #[.int .i64 x] 3)
          obtain ⟨E, hE2⟩ : ∃ V, Z73.alloc (.cells #[.int .i64 x] 3) = V := ⟨_, rfl⟩
          rw [hE2] at kE bE
          have HKE := Lib.hid kE
          have HDE := Lib.hid (H73.out.step bE)
          have LE := Lib.hid (L3.out.below bE)
          have hnn := hN.out
          have hbw : w.heap.size ≤ E.heap.size := HDE.out.bl.size
          clear kE bE
          go_wp2_with (first | (refine wpList_store_rowN rfl 118 (.tmp 13) (.tmp 68) rfl rfl (w71.heap.size) (inA s a1 c1) rfl rfl 118 (#[.string ⟨#[]⟩, .int .i64 0, .int .i64 0]) KW72.out in_size rfl (in_one _ _ _) V72 HV72.out ?_) | (refine wpList_load_row rfl 118 (.tmp 13) rfl (w71.heap.size) rfl 118 _ (0, 0) _ KV72.out Tryd.underlying118 rfl in_size ?_) | (refine wpList_store_rowN rfl 118 (.tmp 2) (.tmp 70) rfl rfl (w.heap.size) (inA s a1 c1) rfl rfl 118 (inA s a' 0) H72.out.r in_size rfl (in_one _ _ _) Z73 HZ73.out ?_) | (at_builtin; refine wpList_dapp info_dint Tryd.underlying46 rfl (by decide) (by decide) (.tmp 72) (.tmp 74) w.heap.size q.codes.length mq.c.v (q.codes.map (Value.int .i64)) #[.int .i64 x] Z73.heap.size rfl rfl rfl rfl LE.out.cs HKE.out rfl (by intro u hu; simp at hu; subst hu; rfl) hbw (by omega) ?_) | (fail))
          intro hd' w9 q1 qn q2
          have PP := HDE.out.push_codes (x := x) (hd := hd') LE.out q1 q2
          obtain ⟨pk9, pd9, pl9⟩ := PP
          obtain ⟨Y9, hY9⟩ : ∃ Y, w9.setCell ⟨w.heap.size + 1, 8, none⟩ hd'.v = Y := ⟨_, rfl⟩
          rw [hY9] at pd9 pl9
          have g9 := pk9.cell 8
          have f9 := pk9.frozen 8
          simp only [pkA, List.getElem?_toArray, List.getElem?_cons_zero, List.getElem?_cons_succ] at g9
          have HD9 := Lib.hid pd9
          have HL9 := Lib.hid pl9
          have EJ := Lib.hid (show dLists s p (a, c) = dItems s f' ({ q with codes := q.codes ++ [x] } : Pk) (a1, c1) by rw [EG.out, EI.out, E71.out])
          simp only [Hd.v] at hY9 ⊢
          clear q1 qn q2 pk9 pd9 pl9 hE2 gc
          go_wp2_with fail
          go_roundw
          case rel => exact ⟨k + 1, f', a1, c1, ({ q with codes := q.codes ++ [x] } : Pk), ({ mq with c := hd' } : Hs), by go_num, by omega, EJ, HD9, HL9, HR71, Lib.hid (by obtain ⟨n1, n2, n3⟩ := hnn; refine ⟨?_, ?_, ?_⟩ <;> (try rw [List.length_append]) <;> simp <;> omega)⟩
          case measure => simp [intOf]; omega
      · have d2 : decide (a' < (s.size : Int)) = false := by simpa using hl
        have EF := Lib.hid (hE.out.trans (items_stop (fun h => hl h.2)))
        clear hl
        go_wp2_with (first | (fail))
        obtain ⟨sA, sB, sC, kq, kz, z2, z3, kd, kb⟩ := ret_end (t := (a', 0)) (p := q) (m := mq) hD.out hD.out.r (by omega) (by omega)
        simp only at sA sB sC kq kz z2 z3 kd kb
        refine wp_region_held (S := fun w' => SRet (w.heap.size) (w.heap.size + 1) s (a', 0) (q) (mq) w') (by kernel_rfl) ?_
        change wpAnyH _ _ _ _ _ _ _ _ wr.drew
        refine wpAnyH_takeD (i := 0) (d := 105) (v := .agg (inA s a' 0)) rfl rfl (by kernel_rfl) (by kernel_rfl) (by kernel_rfl) (fun _ _ _ h => h) (y_load _ rfl rfl rfl (fun w hw => run_loadAt_row w _ _ _ _ _ _ hw.1 Tryd.underlying118 rfl in_size)) sA ?_
        simp only [Act.put, List.setIfInBounds_toArray, List.set_cons_succ, List.set_cons_zero]
        refine wpAnyH_takeD (i := 1) (d := 106) (v := .agg (pkA .i64 (q) (mq))) rfl rfl (by kernel_rfl) (by kernel_rfl) (by kernel_rfl) (fun _ _ _ h => h) (y_load _ rfl rfl rfl (fun w hw => run_loadAt_row w _ _ _ _ _ _ hw.2 Tryd.underlying52 rfl dpk_size)) sA ?_
        simp only [Act.put, List.setIfInBounds_toArray, List.set_cons_succ, List.set_cons_zero]
        refine two_store (k := 2) (l := 3) (dx := 4) (dy := 5) (vx := 105) (vy := 106) (bx := w.heap.size + 2) (by' := w.heap.size + 3) (cx := inA s a' 0) (cy := pkA .i64 (q) (mq)) _ _ rfl rfl rfl rfl rfl rfl rfl rfl (by kernel_rfl) (by kernel_rfl) (by kernel_rfl) rfl rfl rfl rfl kq kz (by omega) in_size dpk_size rfl rfl (in_one _ _ _) (dpk_one _ _) sB sC ?_
        go_wp2_with fail
        refine bodyPost_ret (v := .tuple #[.agg (inA s a' 0), .agg (pkA .i64 (q) (mq))]) (results_two_rows (P := Tryd.prog) (t1 := 4) (t2 := 5) (ty1 := 118) (ty2 := 52) (by kernel_rfl) _ _ (w.heap.size + 2) (w.heap.size + 3) 118 52 _ _ _ _ rfl rfl z2 z3 Tryd.underlying118 rfl in_size Tryd.underlying52 rfl dpk_size) rfl ?_
        exact dwPost_mk (a := a') (c := 0) (p := q) (m := mq) (EF.out) kd kb
    · have d1 : (c' == 0) = false := beq_eq_false_iff_ne.2 hc
      have EF := Lib.hid (hE.out.trans (items_stop (fun h => hc h.1)))
      clear hc
      go_wp2_with (first | (fail))
      obtain ⟨sA, sB, sC, kq, kz, z2, z3, kd, kb⟩ := ret_end (t := (a', c')) (p := q) (m := mq) hD.out hD.out.r (by omega) (by omega)
      simp only at sA sB sC kq kz z2 z3 kd kb
      refine wp_region_held (S := fun w' => SRet (w.heap.size) (w.heap.size + 1) s (a', c') (q) (mq) w') (by kernel_rfl) ?_
      change wpAnyH _ _ _ _ _ _ _ _ wr.drew
      refine wpAnyH_takeD (i := 0) (d := 105) (v := .agg (inA s a' c')) rfl rfl (by kernel_rfl) (by kernel_rfl) (by kernel_rfl) (fun _ _ _ h => h) (y_load _ rfl rfl rfl (fun w hw => run_loadAt_row w _ _ _ _ _ _ hw.1 Tryd.underlying118 rfl in_size)) sA ?_
      simp only [Act.put, List.setIfInBounds_toArray, List.set_cons_succ, List.set_cons_zero]
      refine wpAnyH_takeD (i := 1) (d := 106) (v := .agg (pkA .i64 (q) (mq))) rfl rfl (by kernel_rfl) (by kernel_rfl) (by kernel_rfl) (fun _ _ _ h => h) (y_load _ rfl rfl rfl (fun w hw => run_loadAt_row w _ _ _ _ _ _ hw.2 Tryd.underlying52 rfl dpk_size)) sA ?_
      simp only [Act.put, List.setIfInBounds_toArray, List.set_cons_succ, List.set_cons_zero]
      refine two_store (k := 2) (l := 3) (dx := 4) (dy := 5) (vx := 105) (vy := 106) (bx := w.heap.size + 2) (by' := w.heap.size + 3) (cx := inA s a' c') (cy := pkA .i64 (q) (mq)) _ _ rfl rfl rfl rfl rfl rfl rfl rfl (by kernel_rfl) (by kernel_rfl) (by kernel_rfl) rfl rfl rfl rfl kq kz (by omega) in_size dpk_size rfl rfl (in_one _ _ _) (dpk_one _ _) sB sC ?_
      go_wp2_with fail
      refine bodyPost_ret (v := .tuple #[.agg (inA s a' c'), .agg (pkA .i64 (q) (mq))]) (results_two_rows (P := Tryd.prog) (t1 := 4) (t2 := 5) (ty1 := 118) (ty2 := 52) (by kernel_rfl) _ _ (w.heap.size + 2) (w.heap.size + 3) 118 52 _ _ _ _ rfl rfl z2 z3 Tryd.underlying118 rfl in_size Tryd.underlying52 rfl dpk_size) rfl ?_
      exact dwPost_mk (a := a') (c := c') (p := q) (m := mq) (EF.out) kd kb
end Go.Proofs.YtedapgeabpadaaaDoor

