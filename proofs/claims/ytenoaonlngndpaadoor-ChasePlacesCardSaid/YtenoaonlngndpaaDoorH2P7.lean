/- Parts of the proof, joined: Madw, Tail, Char. -/
import Derived.Test.YtenoaonlngndpaaDoorH2P6
import Derived.Test.YtenoaonlngndpaaDoorH2P5
import Derived.Lib.MinMax
import Derived.Test.YtenoaonlngndpaaDoorChecked
import Derived.Test.YtenoaonlngndpaaDoorH2P1
import Derived.WalkLawsBesides
import Derived.WalkSpells
import Derived.Handy
/- aqueductlaw22's made: the walk. -/
namespace Go.Proofs.YtenoaonlngndpaaDoor
set_option linter.unusedVariables false
set_option linter.unusedSimpArgs false
open Go.RowKit Go.Maps Pl Go.Shelf

/-- Rules towards peers as an argument. -/
def LkRow (w : World) (v : Value) (ls : List Lk) : Prop :=
  ∃ A cap, v = .slice A ls.length cap ∧ ls.length ≤ cap ∧ cap ≤ maxLen ∧
    (0 < ls.length → ∃ b o, A = some ⟨b, o, none⟩ ∧ b < w.heap.size ∧ ∀ i l, ls[i]? = some l → ∀ j u, (lkC l)[j]? = some u → w.cell? ⟨b, o + i * 6 + j, none⟩ = some u)
theorem LkRow.below {w w' : World} {v : Value} {ls : List Lk} (h : LkRow w v ls) (hb : Below w.heap.size w w') : LkRow w' v ls := by
  obtain ⟨A, cap, rfl, h1, h2, h3⟩ := h
  refine ⟨A, cap, rfl, h1, h2, fun hp => ?_⟩
  obtain ⟨b, o, rfl, hl, hc⟩ := h3 hp
  exact ⟨b, o, rfl, Nat.lt_of_lt_of_le hl hb.size, fun i l hi j u hu => (hb.cell (p := ⟨b, o + i * 6 + j, none⟩) hl).trans (hc i l hi j u hu)⟩
/-- Both adverts, as far as they are made. -/
structure Mk2 (B ba bb : Nat) (o ver : Int) (fs : List ByteArray) (ls : List Lk) (vA vB lA lB : Value) (w : World) : Prop where
  a : Blk w ba #[.int .i64 o, .int .i64 ver, vA, lA] 47
  b : Blk w bb #[.int .i64 o, .int .i64 ver, vB, lB] 69
  fA : w.ownsRow B 9 1 vA fs.length (fs.flatMap strC)
  fB : w.ownsRow B 9 1 vB fs.length (fs.flatMap strC)
  gA : w.ownsRow B 55 6 lA ls.length (ls.flatMap lkC)
  gB : w.ownsRow B 86 6 lB ls.length (ls.flatMap lkC)
  ap : ∀ g, vA.ownBlock = some g → vB.ownBlock ≠ some g
  hA : B ≤ ba
  hB : B ≤ bb
  size : B ≤ w.heap.size
theorem ownsRow_below {w w' : World} {B n size : Nat} {e : TypeId} {v : Value} {xs : List Value} (h : w.ownsRow B e size v n xs) (m : Below w.heap.size w w') : w'.ownsRow B e size v n xs :=
  own_mod h (Mod.of_below (S := fun _ => False) m) (fun _ _ c => c)
theorem Mk2.below {B ba bb : Nat} {o ver : Int} {fs : List ByteArray} {ls : List Lk} {vA vB lA lB : Value} {w w' : World} (h : Mk2 B ba bb o ver fs ls vA vB lA lB w) (m : Below w.heap.size w w') : Mk2 B ba bb o ver fs ls vA vB lA lB w' :=
  ⟨h.a.of_below m, h.b.of_below m, ownsRow_below h.fA m, ownsRow_below h.fB m, ownsRow_below h.gA m, ownsRow_below h.gB m, h.ap, h.hA, h.hB, Nat.le_trans h.size m.size⟩
theorem own_apart2 {w : World} {B B' n n' sz sz' : Nat} {e e' : TypeId} {v v' : Value} {xs xs' : List Value} (h : w.ownsRow B e sz v n xs) (h' : w.ownsRow B' e' sz' v' n' xs') (he : e ≠ e') : ∀ g, v.ownBlock = some g → v'.ownBlock ≠ some g :=
  fun g hg => (Sl.of_own h).ne2 (Sl.of_own h') he g hg
theorem map_some {α β : Type} {o : Option α} {f : α → β} {b : β} (h : o.map f = some b) : ∃ i, o = some i ∧ f i = b := by
  cases o with
  | none => cases h
  | some i => exact ⟨i, rfl, by simpa using h⟩
theorem info_strs : (Tryd.prog.info? 44).map (fun i => i.size) = some 1 := by kernel_rfl
theorem info_lks : (Tryd.prog.info? 45).map (fun i => i.size) = some 1 := by kernel_rfl
theorem info_rlks : (Tryd.prog.info? 67).map (fun i => i.size) = some 1 := by kernel_rfl
theorem info_rlk : (Tryd.prog.info? 86).map (fun i => (i.zero, i.size, i.bytes)) = some (some (.agg #[.int .i64 0, .string ⟨#[]⟩, .int .i64 0, .int .i64 0, .string ⟨#[]⟩, .string ⟨#[]⟩]), 6, 72) := by kernel_rfl
theorem rad_size : (Tryd.prog.info? 69).map (·.size) = some 4 := by kernel_rfl
theorem fill_six {z v a b c d e f : Value} (h : v.cells = #[a, b, c, d, e, f]) : Instr.fill (fun k => some (k * 6, 6)) ((Array.range (1 * 6)).map (z.cells[· % z.cells.size]!)) [(0, v)] = some #[a, b, c, d, e, f] := by
  have hr : Array.range (1 * 6) = #[0, 1, 2, 3, 4, 5] := by rfl
  rw [hr]
  simp [Instr.fill, h]
theorem run_loadAt_int {P : Program} {w : World} {ty : TypeId} {q : IntKind} {a : Addr} {v : Value} (hu : P.underlying ty = some (.int q)) (hc : w.cell? a = some v) :
    (Instr.loadAt ty (.pointer (some a))).run P w = .ok v w := by
  simp [Instr.loadAt, Instr.sureAddr, loadVar, isAgg, underlying, hu, run_load, hc]
theorem y_int {P : Program} {ops : Array Oper} {S : World → Prop} {a : Act} {t : Nat} {ad : Addr} {T : TypeId} {q : IntKind} {v : Value} (o : Oper) (hg : o.guard = none) (hop : o.op = .load T (.tmp t)) (ht : a.eval (.tmp t) = .pointer (some ad)) (hu : P.underlying T = some (.int q)) (h : ∀ w, S w → w.cell? ad = some v) : YieldsIf P ops S o v a := by
  refine Or.inl ⟨by simp [Region.wanted, hg], fun w hw => ?_⟩
  unfold execOp
  simp only [hop, ht, Sem.run_bind, run_loadAt_int hu (h w hw), Result.andThen_ok, Sem.run_pure]
theorem y_build2 {P : Program} {ops : Array Oper} {S : World → Prop} {a : Act} {T : TypeId} {parts : Array (Nat × Operand)} {cells : Array Value} (o : Oper) (hg : o.guard = none) (hop : o.op = .build T parts) (hf : P.built T (parts.map fun (i, x) => (i, a.eval x)).toList = some cells) : YieldsIf P ops S o (.agg cells) a := by
  refine Or.inl ⟨by simp [Region.wanted, hg], fun w _ => ?_⟩
  unfold execOp
  simp only [hop, Sem.run_bind, run_build w T _ cells hf, Result.andThen_ok, Sem.run_pure]
theorem made_parts {α β γ : Type} {P : Program} {t : TypeId} {f : TypeInfo → α × β × γ} {x : α} {y : β} {z : γ} (h : (P.info? t).map f = some (x, y, z)) : ∃ i, P.info? t = some i ∧ (f i).1 = x ∧ (f i).2.1 = y ∧ (f i).2.2 = z := by
  cases hq : P.info? t with
  | none => rw [hq] at h; cases h
  | some i => rw [hq] at h; injection h with h; exact ⟨i, rfl, by rw [h], by rw [h], by rw [h]⟩
theorem info_strM : (Tryd.prog.info? 9).map (fun i => (i.zero, i.size, i.bytes)) = some (some (.string ⟨#[]⟩), 1, 16) := by kernel_rfl
theorem info_lkM : (Tryd.prog.info? 55).map (fun i => (i.zero, i.size, i.bytes)) = some (some (.agg #[.int .i64 0, .string ⟨#[]⟩, .int .i64 0, .int .i64 0, .string ⟨#[]⟩, .string ⟨#[]⟩]), 6, 72) := by kernel_rfl
theorem made_apart {w : World} {g g' : Nat} {cs cs' : Array Value} {T T' : TypeId} (h : Blk w g cs T) (h' : Blk w g' cs' T') (ht : T ≠ T') : g ≠ g' := by
  rintro rfl
  unfold Blk at h h'
  rw [h] at h'
  injection h' with h'
  injection h' with _ h3 _
  exact ht h3
/-- What one chain turns lies apart from the other. -/
theorem made_side {w : World} {ga gb B B' : Nat} {csA csB : Array Value} {TA TB e1 e2 : TypeId} {s1 s2 n1 n2 : Nat} {v1 v2 : Value} {x1 x2 : List Value} (ha : Blk w ga csA TA) (hb : Blk w gb csB TB) (hAB : TA ≠ TB) (o1 : w.ownsRow B e1 s1 v1 n1 x1) (o2 : w.ownsRow B' e2 s2 v2 n2 x2) (h1 : TB ≠ e1) (h2 : TA ≠ e2)
    (hd : ∀ g, v1.ownBlock = some g → v2.ownBlock ≠ some g) : ∀ g, (g = ga ∨ v1.ownBlock = some g) → g < w.heap.size ∧ g ≠ gb ∧ v2.ownBlock ≠ some g := by
  rintro g (rfl | hg)
  · exact ⟨ha.lt, made_apart ha hb hAB, own_ne o2 ha h2⟩
  · exact ⟨(o1.lt g hg).2, fun e => own_ne o1 hb h1 (e ▸ hg), hd g hg⟩
/-- What two appends turn. -/
def mkX (ba bb : Nat) (v v' : Value) (g : Nat) : Prop := (g = ba ∨ v.ownBlock = some g) ∨ (g = bb ∨ v'.ownBlock = some g)
section
variable {B ba bb : Nat} {o ver : Int} {fs : List ByteArray} {ls : List Lk} {vA vB lA lB : Value} {w w' : World}
theorem Mk2.size' (h : Mk2 B ba bb o ver fs ls vA vB lA lB w) : ba < w.heap.size ∧ bb < w.heap.size := ⟨h.a.lt, h.b.lt⟩
theorem Mk2.ne (h : Mk2 B ba bb o ver fs ls vA vB lA lB w) : ba ≠ bb := by
  intro e
  have h1 := h.a
  have h2 := h.b
  unfold Blk at h1 h2
  rw [e, h2] at h1
  injection h1 with h1
  injection h1 with _ h1 _
  exact absurd h1 (by decide)
/-- What is turned lies in memory of its own. -/
theorem Mk2.xf (h : Mk2 B ba bb o ver fs ls vA vB lA lB w) : ∀ g, mkX ba bb vA vB g → B ≤ g := by
  rintro g ((rfl | hg) | (rfl | hg))
  · exact h.hA
  · exact (h.fA.lt g hg).1
  · exact h.hB
  · exact (h.fB.lt g hg).1
theorem Mk2.xl (h : Mk2 B ba bb o ver fs ls vA vB lA lB w) : ∀ g, mkX ba bb lA lB g → B ≤ g := by
  rintro g ((rfl | hg) | (rfl | hg))
  · exact h.hA
  · exact (h.gA.lt g hg).1
  · exact h.hB
  · exact (h.gB.lt g hg).1
/-- A block of another type stays. -/
theorem Mk2.keepF (h : Mk2 B ba bb o ver fs ls vA vB lA lB w) (hm : Mod (mkX ba bb vA vB) w w') {b : Nat} {cs : Array Value} {T : TypeId} (hb : Blk w b cs T) (h1 : b ≠ ba) (h2 : b ≠ bb) (hT : T ≠ 9) : Blk w' b cs T :=
  hb.mod hm (by
    rintro ((e | e) | (e | e))
    · exact h1 e
    · exact own_ne h.fA hb hT e
    · exact h2 e
    · exact own_ne h.fB hb hT e)
theorem Mk2.keepL (h : Mk2 B ba bb o ver fs ls vA vB lA lB w) (hm : Mod (mkX ba bb lA lB) w w') {b : Nat} {cs : Array Value} {T : TypeId} (hb : Blk w b cs T) (h1 : b ≠ ba) (h2 : b ≠ bb) (hT : T ≠ 55) (hT' : T ≠ 86) : Blk w' b cs T :=
  hb.mod hm (by
    rintro ((e | e) | (e | e))
    · exact h1 e
    · exact own_ne h.gA hb hT e
    · exact h2 e
    · exact own_ne h.gB hb hT' e)
theorem Mk2.stepF {x : ByteArray} {vA' vB' : Value} (h : Mk2 B ba bb o ver fs ls vA vB lA lB w) (hm : Mod (mkX ba bb vA vB) w w') (hA : Blk w' ba #[.int .i64 o, .int .i64 ver, vA', lA] 47) (nA : w'.ownsRow B 9 1 vA' (fs.length + 1) (fs.flatMap strC ++ [.string x]))
    (hB : Blk w' bb #[.int .i64 o, .int .i64 ver, vB', lB] 69) (nB : w'.ownsRow B 9 1 vB' (fs.length + 1) (fs.flatMap strC ++ [.string x])) (hab : ∀ g, vA'.ownBlock = some g → vB'.ownBlock ≠ some g) : Mk2 B ba bb o ver (fs ++ [x]) ls vA' vB' lA lB w' := by
  have e1 : (fs ++ [x]).length = fs.length + 1 := by simp
  have e2 : (fs ++ [x]).flatMap strC = fs.flatMap strC ++ [.string x] := flat_snoc strC fs x
  refine ⟨hA, hB, by rw [e1, e2]; exact nA, by rw [e1, e2]; exact nB, own_mod h.gA hm ?_, own_mod h.gB hm ?_, hab, h.hA, h.hB, Nat.le_trans h.size hm.size⟩
  · rintro g hg ((e | e) | (e | e))
    · exact own_ne h.gA h.a (by decide) (e ▸ hg)
    · exact own_apart2 h.gA h.fA (by decide) g hg e
    · exact own_ne h.gA h.b (by decide) (e ▸ hg)
    · exact own_apart2 h.gA h.fB (by decide) g hg e
  · rintro g hg ((e | e) | (e | e))
    · exact own_ne h.gB h.a (by decide) (e ▸ hg)
    · exact own_apart2 h.gB h.fA (by decide) g hg e
    · exact own_ne h.gB h.b (by decide) (e ▸ hg)
    · exact own_apart2 h.gB h.fB (by decide) g hg e
theorem Mk2.stepL {x : Lk} {lA' lB' : Value} (h : Mk2 B ba bb o ver fs ls vA vB lA lB w) (hm : Mod (mkX ba bb lA lB) w w') (hA : Blk w' ba #[.int .i64 o, .int .i64 ver, vA, lA'] 47) (nA : w'.ownsRow B 55 6 lA' (ls.length + 1) (ls.flatMap lkC ++ (lkA x).toList))
    (hB : Blk w' bb #[.int .i64 o, .int .i64 ver, vB, lB'] 69) (nB : w'.ownsRow B 86 6 lB' (ls.length + 1) (ls.flatMap lkC ++ (lkA x).toList)) : Mk2 B ba bb o ver fs (ls ++ [x]) vA vB lA' lB' w' := by
  have e1 : (ls ++ [x]).length = ls.length + 1 := by simp
  have e2 : (ls ++ [x]).flatMap lkC = ls.flatMap lkC ++ (lkA x).toList := flat_snoc lkC ls x
  refine ⟨hA, hB, own_mod h.fA hm ?_, own_mod h.fB hm ?_, by rw [e1, e2]; exact nA, by rw [e1, e2]; exact nB, h.ap, h.hA, h.hB, Nat.le_trans h.size hm.size⟩
  · rintro g hg ((e | e) | (e | e))
    · exact own_ne h.fA h.a (by decide) (e ▸ hg)
    · exact own_apart2 h.fA h.gA (by decide) g hg e
    · exact own_ne h.fA h.b (by decide) (e ▸ hg)
    · exact own_apart2 h.fA h.gB (by decide) g hg e
  · rintro g hg ((e | e) | (e | e))
    · exact own_ne h.fB h.a (by decide) (e ▸ hg)
    · exact own_apart2 h.fB h.gA (by decide) g hg e
    · exact own_ne h.fB h.b (by decide) (e ▸ hg)
    · exact own_apart2 h.fB h.gB (by decide) g hg e
end
/-- What lies beside. -/
structure MadW (w wr : World) (X : Array Value) : Prop where
  x : Blk wr w.heap.size X 66
  r2 : Blk wr (w.heap.size + 1) zAdA 47
  r3 : Blk wr (w.heap.size + 1 + 1) zAdA 69
  below : Below w.heap.size w wr
theorem MadW.then {w wr w' : World} {X : Array Value} (h : MadW w wr X) (m : Below wr.heap.size wr w') : MadW w w' X := ⟨h.x.of_below m, h.r2.of_below m, h.r3.of_below m, h.below.trans (m.mono h.below.size)⟩
theorem MadW.modF {w wr w' : World} {X : Array Value} {B ba bb : Nat} {o ver : Int} {fs : List ByteArray} {ls : List Lk} {vA vB lA lB : Value} (h : MadW w wr X) (h2 : Mk2 w.heap.size ba bb o ver fs ls vA vB lA lB wr) (hba : w.heap.size + 1 + 1 < ba) (hbb : w.heap.size + 1 + 1 < bb)
    (hm : Mod (fun g => (g = ba ∨ vA.ownBlock = some g) ∨ (g = bb ∨ vB.ownBlock = some g)) wr w') : MadW w w' X := by
  refine ⟨?_, ?_, ?_, h.below.trans (hm.below h.below.size ?_)⟩
  · exact Mk2.keepF h2 hm h.x (by omega) (by omega) (by decide)
  · exact Mk2.keepF h2 hm h.r2 (by omega) (by omega) (by decide)
  · exact Mk2.keepF h2 hm h.r3 (by omega) (by omega) (by decide)
  · exact h2.xf
theorem MadW.modL {w wr w' : World} {X : Array Value} {B ba bb : Nat} {o ver : Int} {fs : List ByteArray} {ls : List Lk} {vA vB lA lB : Value} (h : MadW w wr X) (h2 : Mk2 w.heap.size ba bb o ver fs ls vA vB lA lB wr) (hba : w.heap.size + 1 + 1 < ba) (hbb : w.heap.size + 1 + 1 < bb)
    (hm : Mod (fun g => (g = ba ∨ lA.ownBlock = some g) ∨ (g = bb ∨ lB.ownBlock = some g)) wr w') : MadW w w' X := by
  refine ⟨?_, ?_, ?_, h.below.trans (hm.below h.below.size ?_)⟩
  · exact Mk2.keepL h2 hm h.x (by omega) (by omega) (by decide) (by decide)
  · exact Mk2.keepL h2 hm h.r2 (by omega) (by omega) (by decide) (by decide)
  · exact Mk2.keepL h2 hm h.r3 (by omega) (by omega) (by decide) (by decide)
  · exact h2.xl
theorem five_laid (w : World) (X A B : Array Value) (Y : World) (hY : ((((w.alloc (.cells X 66)).alloc (.cells zAdA 47)).alloc (.cells zAdA 69)).alloc (.cells A 47)).alloc (.cells B 69) = Y) :
    MadW w Y X ∧ Blk Y (w.heap.size + 1 + 1 + 1) A 47 ∧ Blk Y (w.heap.size + 1 + 1 + 1 + 1) B 69 := by
  subst hY
  have b0 := Below.refl w.heap.size w
  have b1 := b0.alloc (Nat.le_refl _) (.cells X 66)
  have b2 := b1.alloc b1.size (.cells zAdA 47)
  have b3 := b2.alloc b2.size (.cells zAdA 69)
  have b4 := b3.alloc b3.size (.cells A 47)
  have b5 := b4.alloc b4.size (.cells B 69)
  exact ⟨⟨((((blk_at w X _ rfl).alloc _).alloc _).alloc _).alloc _, (((blk_at _ zAdA _ (by simp)).alloc _).alloc _).alloc _, ((blk_at _ zAdA _ (by simp)).alloc _).alloc _, b5⟩, (blk_at _ A _ (by simp)).alloc _, blk_at _ B _ (by simp)⟩
/-- Behind a rule's making. -/
theorem three_laid {w wr w2 Z : World} {X : Array Value} {B ba bb : Nat} {o ver : Int} {fs : List ByteArray} {ls : List Lk} {vA vB lA lB : Value} {R : Array Value} (y : Lk) (h : Mk2 B ba bb o ver fs ls vA vB lA lB wr) (h2 : MadW w wr X)
    (k2 : Below (wr.alloc (.cells #[.int .i64 y.peer, .string y.rule.pat, .int .i64 y.rule.dir, .int .i64 y.rule.qos, .string y.rule.loc, .string y.rule.rem] 101)).heap.size (wr.alloc (.cells #[.int .i64 y.peer, .string y.rule.pat, .int .i64 y.rule.dir, .int .i64 y.rule.qos, .string y.rule.loc, .string y.rule.rem] 101)) w2)
    (hZ : (w2.alloc (.cells R 53)).alloc (.cells R 84) = Z) :
    Mk2 B ba bb o ver fs ls vA vB lA lB Z ∧ MadW w Z X ∧ Blk Z wr.heap.size (lkA y) 101 ∧ Blk Z w2.heap.size R 53 ∧ Blk Z (w2.heap.size + 1) R 84 := by
  subst hZ
  have m0 := (Below.refl wr.heap.size wr).alloc (Nat.le_refl _) (.cells (lkA y) 101)
  have n0 := (blk_at wr (lkA y) 101 rfl).of_below k2
  have m1 := m0.trans (k2.mono m0.size)
  have m2 := m1.alloc m1.size (.cells R 53)
  have m3 := m2.alloc m2.size (.cells R 84)
  exact ⟨h.below m3, h2.then m3, (n0.alloc _).alloc _, (blk_at w2 R _ rfl).alloc _, blk_at _ R _ (by simp)⟩
/-- What made comes to. -/
def MadePost (x : Ad) (w : World) (e : Ending) (w' : World) : Prop := ∃ vf1 vl1 vf2 vl2, e = .returned (.tuple #[.agg (adA x vf1 vl1), .agg (adA x vf2 vl2)]) ∧ AdAt w.heap.size w' 55 x vf1 vl1 ∧ AdAt w.heap.size w' 86 x vf2 vl2 ∧ Below w.heap.size w w'
section
variable {P : Program} {ops : Array Oper} {Q : Exit → Act → World → Prop} {md : Region.Mode} {S : World → Prop}
theorem run_store_rowM {o : Oper} {a : Act} {w : World} (ty : TypeId) (x y : Operand) (ho : o.op = .store ty x y) (g : Nat) (cells : Array Value) (hx : a.eval x = .pointer (some ⟨g, 0, none⟩)) (hy : a.eval y = .agg cells)
    (t : TypeId) (old : Array Value) (hg : Blk w g old t) (hi : (P.info? ty).map (·.size) = some cells.size) (hold : old.size = cells.size) (h1 : cells.all (·.oneCell') = true) :
    (execOp a.eval o).run P w = .ok .skip (w.setRow g cells) := by
  unfold execOp
  simp only [ho, hx, hy, Instr.storeAt, Instr.sureAddr, Sem.run_bind, Sem.run_pure, Result.andThen_ok, run_storeVar_row w g t ty old cells hg hi hold h1]
/-- Two rows are stored, one behind the other. -/
theorem two_store {k l dx dy vx vy bx by' : Nat} {Tx Ty : TypeId} {zx zy cx cy : Array Value} {L : Array Bool} {a : Act} {w : World} (ok ol : Oper) (hk : ops[k]? = some ok) (hl : ops[l]? = some ol) (gk : ok.guard = none) (gl : ol.guard = none) (dk : ok.dst = none) (dl : ol.dst = none)
    (pk : ok.op = .store Tx (.tmp dx) (.tmp vx)) (pl : ol.op = .store Ty (.tmp dy) (.tmp vy)) (r3 : Region.ready md ops L = [k]) (r4 : Region.ready md ops (L.setIfInBounds k true) = [l]) (r5 : Region.ready md ops ((L.setIfInBounds k true).setIfInBounds l true) = [])
    (e1 : a.eval (.tmp dx) = .pointer (some ⟨bx, 0, none⟩)) (e2 : a.eval (.tmp dy) = .pointer (some ⟨by', 0, none⟩)) (e3 : a.eval (.tmp vx) = .agg cx) (e4 : a.eval (.tmp vy) = .agg cy)
    (kx : Blk w bx zx Tx) (ky : Blk w by' zy Ty) (hne : bx ≠ by')
    (ix : (P.info? Tx).map (·.size) = some cx.size) (iy : (P.info? Ty).map (·.size) = some cy.size) (sx : zx.size = cx.size) (sy : zy.size = cy.size) (ox : cx.all (·.oneCell') = true) (oy : cy.all (·.oneCell') = true)
    (hS1 : S (w.setRow bx cx)) (hS2 : S ((w.setRow bx cx).setRow by' cy)) (h : Q .normal a ((w.setRow bx cx).setRow by' cy)) : wpAnyH P md ops Q S 2 L a w := by
  refine wpAnyH_one r3 (wpOp_skip hk gk (run_store_rowM Tx _ _ pk bx cx e1 e3 Tx zx kx ix sx ox) ⟨hS1, ?_⟩)
  rw [dk]
  refine wpAnyH_one r4 (wpOp_skip hl gl (run_store_rowM Ty _ _ pl by' cy e2 e4 Ty zy (ky.setRow_other (Ne.symm hne)) iy sy oy) ⟨hS2, ?_⟩)
  rw [dl]
  exact ⟨r5, h⟩
end
theorem lad_size : (Tryd.prog.info? 47).map (·.size) = some 4 := by kernel_rfl
/-- Both adverts at the end. -/
theorem made_end {w wr Z : World} {X : Array Value} {ba bb : Nat} {o ver : Int} {fs : List ByteArray} {ls : List Lk} {vA vB lA lB : Value} (h : Mk2 w.heap.size ba bb o ver fs ls vA vB lA lB wr) (h2 : MadW w wr X)
    (hZ : ((wr.drew.setRow (w.heap.size + 1) #[.int .i64 o, .int .i64 ver, vA, lA]).setRow (w.heap.size + 1 + 1) #[.int .i64 o, .int .i64 ver, vB, lB]) = Z) :
    Blk Z (w.heap.size + 1) #[.int .i64 o, .int .i64 ver, vA, lA] 47 ∧ Blk Z (w.heap.size + 1 + 1) #[.int .i64 o, .int .i64 ver, vB, lB] 69 ∧ AdAt w.heap.size Z 55 ⟨o, ver, fs, ls⟩ vA lA ∧ AdAt w.heap.size Z 86 ⟨o, ver, fs, ls⟩ vB lB ∧ Below w.heap.size w Z := by
  subst hZ
  have r2 := h2.r2.drew
  have r3 := h2.r3.drew
  have m : Mod (fun k => k = w.heap.size + 1 ∨ k = w.heap.size + 1 + 1) wr.drew ((wr.drew.setRow (w.heap.size + 1) #[.int .i64 o, .int .i64 ver, vA, lA]).setRow (w.heap.size + 1 + 1) #[.int .i64 o, .int .i64 ver, vB, lB]) :=
    ⟨rfl, rfl, rfl, by simp [World.setRow], fun i hi hn => (Go.setRow_other _ _ i _ (fun e => hn (.inr e))).trans (Go.setRow_other _ _ i _ (fun e => hn (.inl e)))⟩
  have ne : ∀ {e : TypeId} {sz n : Nat} {v : Value} {xs : List Value}, wr.ownsRow w.heap.size e sz v n xs → 47 ≠ e → 69 ≠ e → ∀ g, v.ownBlock = some g → ¬ (g = w.heap.size + 1 ∨ g = w.heap.size + 1 + 1) := by
    rintro e sz n v xs hr h1 h1' g hg (rfl | rfl)
    · exact own_ne hr h2.r2 h1 hg
    · exact own_ne hr h2.r3 h1' hg
  have dr : ∀ {e : TypeId} {sz n : Nat} {v : Value} {xs : List Value}, wr.ownsRow w.heap.size e sz v n xs → wr.drew.ownsRow w.heap.size e sz v n xs := fun hr => hr
  refine ⟨r2.setRow.setRow_other (by omega), (r3.setRow_other (by omega)).setRow, ⟨Sl.of_own (own_mod (dr h.fA) m (ne h.fA (by decide) (by decide))), Sl.of_own (own_mod (dr h.gA) m (ne h.gA (by decide) (by decide)))⟩, ⟨Sl.of_own (own_mod (dr h.fB) m (ne h.fB (by decide) (by decide))), Sl.of_own (own_mod (dr h.gB) m (ne h.gB (by decide) (by decide)))⟩, ?_⟩
  exact below_setRow (below_setRow h2.below.drew (by omega) _) (by omega) _
end Go.Proofs.YtenoaonlngndpaaDoor
namespace Go.Proofs.YtenoaonlngndpaaDoor
set_option linter.unusedVariables false
set_option linter.unusedSimpArgs false
open Go.RowKit Go.Maps Pl Go.Shelf
set_option maxHeartbeats 8000000 in
set_option maxRecDepth 100000 in
theorem made_any (x : Ad) (vf vl : Value) (w : World) (hf : Strs w vf x.fs) (hl : LkRow w vl x.ls) :
    Calls Tryd.prog 18 #[.agg (adA x vf vl)] w (MadePost { x with fs := x.fs.take 70, ls := x.ls.take 20 } w) := by
  obtain ⟨owner, version, fs, ls⟩ := x
  simp only at hf hl ⊢
  obtain ⟨Af, cf, rfl, qf1, qf2, hfc⟩ := hf
  obtain ⟨Al, cl, rfl, ql1, ql2, hlc⟩ := hl
  unfold maxLen at qf2 ql2
  obtain ⟨N, hN⟩ : ∃ N : Nat, min fs.length 70 = N := ⟨_, rfl⟩
  have hNI : min (fs.length : Int) 70 = (N : Int) := by omega
  have hNL : N ≤ fs.length := by omega
  have hNc : (N : Int) ≤ (cf : Int) := by omega
  have hN70 : N ≤ 70 := by omega
  obtain ⟨M, hM⟩ : ∃ M : Nat, min ls.length 20 = M := ⟨_, rfl⟩
  have hMI : min (ls.length : Int) 20 = (M : Int) := by omega
  have hML : M ≤ ls.length := by omega
  have hMc : (M : Int) ≤ (cl : Int) := by omega
  have hM20 : M ≤ 20 := by omega
  have HFC := Lib.hid hfc
  have HLC := Lib.hid hlc
  have HN := Lib.hid hN
  have HM := Lib.hid hM
  clear hfc hlc hN hM
  unfold adA
  simp only
  go_enter Tryd.func18, Tryd.ntmps18
  go_wp2_with fail
  obtain ⟨Y, hY⟩ : ∃ Y, ((((w.alloc (.cells #[.int .i64 owner, .int .i64 version, .slice Af fs.length cf, .slice Al ls.length cl] 66)).alloc (.cells zAdA 47)).alloc (.cells zAdA 69)).alloc (.cells #[.int .i64 owner, .int .i64 version, .slice none 0 0, .slice none 0 0] 47)).alloc (.cells #[.int .i64 owner, .int .i64 version, .slice none 0 0, .slice none 0 0] 69) = Y := ⟨_, rfl⟩
  unfold zAdA at hY
  rw [hY]
  obtain ⟨md, mA, mB⟩ := five_laid w _ _ _ Y hY
  clear hY
  have hs0 : w.heap.size ≤ Y.heap.size := md.below.size
  have H := Lib.hid (show Mk2 w.heap.size (w.heap.size + 1 + 1 + 1) (w.heap.size + 1 + 1 + 1 + 1) owner version [] [] (.slice none 0 0) (.slice none 0 0) (.slice none 0 0) (.slice none 0 0) Y ∧ MadW w Y #[.int .i64 owner, .int .i64 version, .slice Af fs.length cf, .slice Al ls.length cl] from ⟨⟨mA, mB, World.ownsRow_nil _ _ _ _, World.ownsRow_nil _ _ _ _, World.ownsRow_nil _ _ _ _, World.ownsRow_nil _ _ _ _, fun g h => (by simp [Value.ownBlock] at h), by omega, by omega, hs0⟩, md⟩)
  clear md mA mB hs0
  go_loopw [30] (fun i wr => ∃ (k : Nat) (vA vB : Value), i = .int .i64 k ∧ k ≤ N ∧ Hid (Mk2 w.heap.size (w.heap.size + 1 + 1 + 1) (w.heap.size + 1 + 1 + 1 + 1) owner version (fs.take k) [] vA vB (.slice none 0 0) (.slice none 0 0) wr ∧ MadW w wr #[.int .i64 owner, .int .i64 version, .slice Af fs.length cf, .slice Al ls.length cl])) (fun i _ => N - (intOf i).toNat)
  case atStart => exact ⟨0, _, _, rfl, Nat.zero_le _, H⟩
  case round =>
    obtain ⟨k, vA, vB, rfl, hk, hL⟩ := hrel
    by_cases hlt : k < N
    · have hkM : (k : Int) < (N : Int) := by omega
      obtain ⟨x, hx⟩ : ∃ x, fs[k]? = some x := ⟨_, List.getElem?_eq_getElem (by omega)⟩
      obtain ⟨b, o, rfl, hl, hcl⟩ := HFC.out (by omega)
      have c0 : wr.cell? ⟨b, o + k, none⟩ = some (.string x) := (hL.out.2.below.cell (p := ⟨b, o + k, none⟩) hl).trans (hcl k x hx)
      have hx := Lib.hid hx
      clear hcl hl
      go_wp2_with fail
      obtain ⟨fk, hfk⟩ : ∃ L, fs.take k = L := ⟨_, rfl⟩
      have hll : fk.length ≤ 70 := by rw [← hfk, List.length_take]; omega
      have mk := hL.out.1
      rw [hfk] at mk
      refine wp_region_held (S := fun w' => True) (by kernel_rfl) ?_
      change wpAnyH _ _ _ _ _ _ _ _ wr.drew
      refine wpAnyH_takeD (i := 0) (d := 34) (v := .pointer (some ⟨(w.heap.size + 1 + 1 + 1), 2, none⟩)) rfl rfl (by kernel_rfl) (by kernel_rfl) (by kernel_rfl) (fun _ _ _ h => h) (y_field _ rfl rfl rfl (fun w => by go_simp)) trivial ?_
      simp only [Act.put, List.setIfInBounds_toArray, List.set_cons_succ, List.set_cons_zero]
      refine wpAnyH_takeD (i := 2) (d := 36) (v := .string x) rfl rfl (by kernel_rfl) (by kernel_rfl) (by kernel_rfl) (fun _ _ _ h => h) (y_move _ rfl rfl rfl) trivial ?_
      simp only [Act.put, List.setIfInBounds_toArray, List.set_cons_succ, List.set_cons_zero]
      refine wpAnyH_takeD (i := 5) (d := 39) (v := .pointer (some ⟨(w.heap.size + 1 + 1 + 1 + 1), 2, none⟩)) rfl rfl (by kernel_rfl) (by kernel_rfl) (by kernel_rfl) (fun _ _ _ h => h) (y_field _ rfl rfl rfl (fun w => by go_simp)) trivial ?_
      simp only [Act.put, List.setIfInBounds_toArray, List.set_cons_succ, List.set_cons_zero]
      refine wpAnyH_takeD (i := 7) (d := 41) (v := .string x) rfl rfl (by kernel_rfl) (by kernel_rfl) (by kernel_rfl) (fun _ _ _ h => h) (y_move _ rfl rfl rfl) trivial ?_
      simp only [Act.put, List.setIfInBounds_toArray, List.set_cons_succ, List.set_cons_zero]
      generalize hA0 : ({ tmps := _, defers := _ } : Act) = a0
      change wpAnyH _ _ _ _ _ 10 (lst 14 [0, 2, 5, 7]) _ _
      have hsz : a0.tmps.size = 86 := by rw [← hA0]; simp
      have e34 : a0.eval (.tmp 34) = .pointer (some ⟨(w.heap.size + 1 + 1 + 1), 2, none⟩) := by rw [← hA0]; rfl
      have e36 : a0.eval (.tmp 36) = .string x := by rw [← hA0]; rfl
      have e39 : a0.eval (.tmp 39) = .pointer (some ⟨(w.heap.size + 1 + 1 + 1 + 1), 2, none⟩) := by rw [← hA0]; rfl
      have e41 : a0.eval (.tmp 41) = .string x := by rw [← hA0]; rfl
      have e4 : a0.eval (.tmp 4) = .pointer (some ⟨(w.heap.size + 1 + 1 + 1), 0, none⟩) := by rw [← hA0]; rfl
      have e5 : a0.eval (.tmp 5) = .pointer (some ⟨(w.heap.size + 1 + 1 + 1 + 1), 0, none⟩) := by rw [← hA0]; rfl
      obtain ⟨si0, hsi0, hz00, hz10, hz20⟩ := made_parts info_strM
      obtain ⟨si1, hsi1, hz01, hz11, hz21⟩ := made_parts info_strM
      obtain ⟨li0, hli0, hl10⟩ := map_some info_strs
      obtain ⟨li1, hli1, hl11⟩ := map_some info_strs
      refine appends2 (cA := ⟨(w.heap.size + 1 + 1 + 1), 2, 47, #[.int .i64 owner, .int .i64 version, vA, .slice none 0 0], 9, 1, w.heap.size, vA, fk.length, fk.flatMap strC, #[.string x], 35, 37, 38, 44⟩) (cB := ⟨(w.heap.size + 1 + 1 + 1 + 1), 2, 69, #[.int .i64 owner, .int .i64 version, vB, .slice none 0 0], 9, 1, w.heap.size, vB, fk.length, fk.flatMap strC, #[.string x], 40, 42, 43, 45⟩) (D := [35, 37, 38, 44, 40, 42, 43, 45]) (n := 10) (i0 := 1) (i1 := 3) (i2 := 4) (i3 := 10) (i4 := 11) (j0 := 6) (j1 := 8) (j2 := 9) (j3 := 12) (j4 := 13) ?_ ?_ (by kernel_rfl) (by decide) (by simp) (by kernel_rfl) (by dsimp only; decide) mk.ap ?_ ?_ (fun _ _ => trivial) mk.size mk.size mk.a.drew mk.fA mk.b.drew mk.fB ?_
      · exact ⟨by rw [hsz]; dsimp only; decide, by rw [hsz]; dsimp only; decide, by rw [hsz]; dsimp only; decide, by rw [hsz]; dsimp only; decide, by dsimp only; decide, by dsimp only; decide, by dsimp only; decide, by dsimp only; decide, by dsimp only; decide, mk_load _ rfl rfl rfl rfl (by decide) e34 Tryd.underlying44, mk_make _ rfl rfl rfl rfl (by decide) e36 Tryd.underlying44 hsi0 hz00 hz10 (by decide) (by decide) (fill_one rfl), ⟨_, _, _, _, _, rfl, rfl, rfl, rfl, Tryd.underlying44, hsi0, hz00, hz10, hz20, rfl, by simp only; omega⟩, mk_fa _ rfl rfl rfl rfl (by decide) e4 (fun w => by go_simp), mk_put _ rfl rfl rfl rfl hli0 hl10, by dsimp only; decide, by dsimp only; decide, rfl, by simp [Value.oneCell'], by simp only; unfold maxLen; omega, rfl⟩
      · exact ⟨by rw [hsz]; dsimp only; decide, by rw [hsz]; dsimp only; decide, by rw [hsz]; dsimp only; decide, by rw [hsz]; dsimp only; decide, by dsimp only; decide, by dsimp only; decide, by dsimp only; decide, by dsimp only; decide, by dsimp only; decide, mk_load _ rfl rfl rfl rfl (by decide) e39 Tryd.underlying44, mk_make _ rfl rfl rfl rfl (by decide) e41 Tryd.underlying44 hsi1 hz01 hz11 (by decide) (by decide) (fill_one rfl), ⟨_, _, _, _, _, rfl, rfl, rfl, rfl, Tryd.underlying44, hsi1, hz01, hz11, hz21, rfl, by simp only; omega⟩, mk_fa _ rfl rfl rfl rfl (by decide) e5 (fun w => by go_simp), mk_put _ rfl rfl rfl rfl hli1 hl11, by dsimp only; decide, by dsimp only; decide, rfl, by simp [Value.oneCell'], by simp only; unfold maxLen; omega, rfl⟩
      · exact made_side mk.a mk.b (by decide) mk.fA mk.fB (by decide) (by decide) mk.ap
      · exact made_side mk.b mk.a (by decide) mk.fB mk.fA (by decide) (by decide) (fun g h1 h2 => mk.ap g h2 h1)
      intro a w' vA' vB' hag hm hA hnA hB hnB hab
      have mX := (Mod.drew (Mod.refl _ wr)).trans hm
      dsimp only at mX hA hB hnA hnB
      have mk' := mk.stepF (x := x) mX hA hnA.2.1 hB hnB.2.1 hab
      have md' := hL.out.2.modF (B := 0) mk (by omega) (by omega) mX
      have ld : Hid (Mk2 w.heap.size (w.heap.size + 1 + 1 + 1) (w.heap.size + 1 + 1 + 1 + 1) owner version (fs.take (k + 1)) [] vA' vB' (.slice none 0 0) (.slice none 0 0) w' ∧ MadW w w' #[.int .i64 owner, .int .i64 version, .slice (some ⟨b, o, none⟩) fs.length cf, .slice Al ls.length cl]) := by
        have e : fs.take (k + 1) = fk ++ [x] := by rw [List.take_add_one, hfk, hx.out]; rfl
        rw [e]; exact Lib.hid ⟨mk', md'⟩
      obtain ⟨f, hf⟩ : ∃ f : Nat → Value, a = putAll f [35, 37, 38, 44, 40, 42, 43, 45] a0 := ⟨_, hag.form⟩
      rw [hf, ← hA0]
      simp only [putAll, Act.put, List.setIfInBounds_toArray, List.set_cons_succ, List.set_cons_zero]
      clear hf hag hA hnA hB hnB hab hm mX mk hA0 e34 e36 e39 e41 e4 e5 hsz mk' md'
      go_wp2_with fail
      go_roundw
      case rel => exact ⟨k + 1, vA', vB', by go_num, by omega, ld⟩
      case measure => simp [intOf]; omega
    · obtain rfl : k = N := by omega
      have hL2 := hL.out
      have hend : fs.take k = fs.take 70 := by
        rw [← HN.out]
        by_cases hl : fs.length ≤ 70
        · rw [Nat.min_eq_left hl, List.take_length, List.take_of_length_le hl]
        · rw [Nat.min_eq_right (by omega)]
      rw [hend] at hL2
      have hL2 := Lib.hid hL2
      clear hend hL
      have x3 : wr.cell? ⟨w.heap.size, 3, none⟩ = some (.slice Al ls.length cl) := hL2.out.2.x.cell 3
      go_wp2_with fail
      have H2 := Lib.hid (show Mk2 w.heap.size (w.heap.size + 1 + 1 + 1) (w.heap.size + 1 + 1 + 1 + 1) owner version (fs.take 70) (ls.take 0) vA vB (.slice none 0 0) (.slice none 0 0) wr ∧ MadW w wr #[.int .i64 owner, .int .i64 version, .slice Af fs.length cf, .slice Al ls.length cl] from hL2.out)
      clear hL2
      go_loopw [55] (fun i wr => ∃ (k : Nat) (lA lB : Value), i = .int .i64 k ∧ k ≤ M ∧ Hid (Mk2 w.heap.size (w.heap.size + 1 + 1 + 1) (w.heap.size + 1 + 1 + 1 + 1) owner version (fs.take 70) (ls.take k) vA vB lA lB wr ∧ MadW w wr #[.int .i64 owner, .int .i64 version, .slice Af fs.length cf, .slice Al ls.length cl])) (fun i _ => M - (intOf i).toNat)
      case atStart => exact ⟨0, _, _, rfl, Nat.zero_le _, H2⟩
      case round =>
        obtain ⟨j, lA, lB, rfl, hj, hL⟩ := hrel
        by_cases hlt : j < M
        · have hkM : (j : Int) < (M : Int) := by omega
          obtain ⟨y, hy⟩ : ∃ y, ls[j]? = some y := ⟨_, List.getElem?_eq_getElem (by omega)⟩
          obtain ⟨b, o, rfl, hl, hcl⟩ := HLC.out (by omega)
          have hc : ∀ i u, (lkC y)[i]? = some u → wr.cell? ⟨b, o + j * 6 + i, none⟩ = some u := fun i u hu => (hL.out.2.below.cell (p := ⟨b, o + j * 6 + i, none⟩) hl).trans (hcl j y hy i u hu)
          have c0 : wr.cell? ⟨b, o + j * 6, none⟩ = some (.int .i64 y.peer) := hc 0 _ rfl
          have c1 : wr.cell? ⟨b, o + j * 6 + 1, none⟩ = some (.string y.rule.pat) := hc 1 _ rfl
          have c2 : wr.cell? ⟨b, o + j * 6 + 2, none⟩ = some (.int .i64 y.rule.dir) := hc 2 _ rfl
          have c3 : wr.cell? ⟨b, o + j * 6 + 3, none⟩ = some (.int .i64 y.rule.qos) := hc 3 _ rfl
          have c4 : wr.cell? ⟨b, o + j * 6 + 4, none⟩ = some (.string y.rule.loc) := hc 4 _ rfl
          have c5 : wr.cell? ⟨b, o + j * 6 + 5, none⟩ = some (.string y.rule.rem) := hc 5 _ rfl
          have hy := Lib.hid hy
          clear hcl hl hc
          have hr := fun W => rule_any y.rule W
          simp only [ruC] at hr
          have HR := Lib.hid hr
          clear hr
          go_wp2_with (first | (go_at_call 38; (with_reducible refine (HR.out _).mono ?_); rintro e w2 ⟨rfl, k2⟩) | fail)
          clear HR c0 c1 c2 c3 c4 c5
          obtain ⟨Z, hZ⟩ : ∃ Z, (w2.alloc (.cells #[.string y.rule.pat, .int .i64 y.rule.dir, .int .i64 y.rule.qos, .string y.rule.loc, .string y.rule.rem] 53)).alloc (.cells #[.string y.rule.pat, .int .i64 y.rule.dir, .int .i64 y.rule.qos, .string y.rule.loc, .string y.rule.rem] 84) = Z := ⟨_, rfl⟩
          rw [hZ]
          obtain ⟨mk, md, q9, q10, q11⟩ := three_laid y hL.out.1 hL.out.2 k2 hZ
          clear hZ
          have hHZ : w.heap.size ≤ wr.heap.size := hL.out.2.below.size
          obtain ⟨lk, hlk⟩ : ∃ L, ls.take j = L := ⟨_, rfl⟩
          have hll : lk.length ≤ 20 := by rw [← hlk, List.length_take]; omega
          rw [hlk] at mk
          refine wp_region_held (S := fun w' => Blk w' wr.heap.size (lkA y) 101 ∧ Blk w' w2.heap.size #[.string y.rule.pat, .int .i64 y.rule.dir, .int .i64 y.rule.qos, .string y.rule.loc, .string y.rule.rem] 53 ∧ Blk w' (w2.heap.size + 1) #[.string y.rule.pat, .int .i64 y.rule.dir, .int .i64 y.rule.qos, .string y.rule.loc, .string y.rule.rem] 84) (by kernel_rfl) ?_
          change wpAnyH _ _ _ _ _ _ _ _ Z.drew
          refine wpAnyH_takeD (i := 0) (d := 65) (v := .pointer (some ⟨(w.heap.size + 1 + 1 + 1), 3, none⟩)) rfl rfl (by kernel_rfl) (by kernel_rfl) (by kernel_rfl) (fun _ _ _ h => h) (y_field _ rfl rfl rfl (fun w => by go_simp)) ⟨q9, q10, q11⟩ ?_
          simp only [Act.put, List.setIfInBounds_toArray, List.set_cons_succ, List.set_cons_zero]
          refine wpAnyH_takeD (i := 2) (d := 67) (v := .pointer (some ⟨wr.heap.size, 0, none⟩)) rfl rfl (by kernel_rfl) (by kernel_rfl) (by kernel_rfl) (fun _ _ _ h => h) (y_field _ rfl rfl rfl (fun w => by go_simp)) ⟨q9, q10, q11⟩ ?_
          simp only [Act.put, List.setIfInBounds_toArray, List.set_cons_succ, List.set_cons_zero]
          refine wpAnyH_takeD (i := 3) (d := 68) (v := .int .i64 y.peer) rfl rfl (by kernel_rfl) (by kernel_rfl) (by kernel_rfl) (fun _ _ _ h => h) (y_int _ rfl rfl rfl Tryd.underlying3 (fun w hw => hw.1.cell 0)) ⟨q9, q10, q11⟩ ?_
          simp only [Act.put, List.setIfInBounds_toArray, List.set_cons_succ, List.set_cons_zero]
          refine wpAnyH_takeD (i := 4) (d := 69) (v := .agg #[.string y.rule.pat, .int .i64 y.rule.dir, .int .i64 y.rule.qos, .string y.rule.loc, .string y.rule.rem]) rfl rfl (by kernel_rfl) (by kernel_rfl) (by kernel_rfl) (fun _ _ _ h => h) (y_load _ rfl rfl rfl (fun w hw => run_loadAt_row w w2.heap.size _ _ _ _ _ hw.2.1 Tryd.underlying53 rfl ru_size)) ⟨q9, q10, q11⟩ ?_
          simp only [Act.put, List.setIfInBounds_toArray, List.set_cons_succ, List.set_cons_zero]
          refine wpAnyH_takeD (i := 5) (d := 70) (v := .agg (lkA y)) rfl rfl (by kernel_rfl) (by kernel_rfl) (by kernel_rfl) (fun _ _ _ h => h) (y_build2 _ rfl rfl (by kernel_rfl)) ⟨q9, q10, q11⟩ ?_
          simp only [Act.put, List.setIfInBounds_toArray, List.set_cons_succ, List.set_cons_zero]
          refine wpAnyH_takeD (i := 8) (d := 73) (v := .pointer (some ⟨(w.heap.size + 1 + 1 + 1 + 1), 3, none⟩)) rfl rfl (by kernel_rfl) (by kernel_rfl) (by kernel_rfl) (fun _ _ _ h => h) (y_field _ rfl rfl rfl (fun w => by go_simp)) ⟨q9, q10, q11⟩ ?_
          simp only [Act.put, List.setIfInBounds_toArray, List.set_cons_succ, List.set_cons_zero]
          refine wpAnyH_takeD (i := 10) (d := 75) (v := .pointer (some ⟨wr.heap.size, 0, none⟩)) rfl rfl (by kernel_rfl) (by kernel_rfl) (by kernel_rfl) (fun _ _ _ h => h) (y_field _ rfl rfl rfl (fun w => by go_simp)) ⟨q9, q10, q11⟩ ?_
          simp only [Act.put, List.setIfInBounds_toArray, List.set_cons_succ, List.set_cons_zero]
          refine wpAnyH_takeD (i := 11) (d := 76) (v := .int .i64 y.peer) rfl rfl (by kernel_rfl) (by kernel_rfl) (by kernel_rfl) (fun _ _ _ h => h) (y_int _ rfl rfl rfl Tryd.underlying3 (fun w hw => hw.1.cell 0)) ⟨q9, q10, q11⟩ ?_
          simp only [Act.put, List.setIfInBounds_toArray, List.set_cons_succ, List.set_cons_zero]
          refine wpAnyH_takeD (i := 12) (d := 77) (v := .agg #[.string y.rule.pat, .int .i64 y.rule.dir, .int .i64 y.rule.qos, .string y.rule.loc, .string y.rule.rem]) rfl rfl (by kernel_rfl) (by kernel_rfl) (by kernel_rfl) (fun _ _ _ h => h) (y_load _ rfl rfl rfl (fun w hw => run_loadAt_row w (w2.heap.size + 1) _ _ _ _ _ hw.2.2 Tryd.underlying84 rfl rr_size)) ⟨q9, q10, q11⟩ ?_
          simp only [Act.put, List.setIfInBounds_toArray, List.set_cons_succ, List.set_cons_zero]
          refine wpAnyH_takeD (i := 13) (d := 78) (v := .agg (lkA y)) rfl rfl (by kernel_rfl) (by kernel_rfl) (by kernel_rfl) (fun _ _ _ h => h) (y_build2 _ rfl rfl (by kernel_rfl)) ⟨q9, q10, q11⟩ ?_
          simp only [Act.put, List.setIfInBounds_toArray, List.set_cons_succ, List.set_cons_zero]
          generalize hA0 : ({ tmps := _, defers := _ } : Act) = a0
          change wpAnyH _ _ _ _ _ 10 (lst 20 [0, 2, 3, 4, 5, 8, 10, 11, 12, 13]) _ _
          have hsz : a0.tmps.size = 86 := by rw [← hA0]; simp
          have e65 : a0.eval (.tmp 65) = .pointer (some ⟨(w.heap.size + 1 + 1 + 1), 3, none⟩) := by rw [← hA0]; rfl
          have e67 : a0.eval (.tmp 67) = .pointer (some ⟨wr.heap.size, 0, none⟩) := by rw [← hA0]; rfl
          have e68 : a0.eval (.tmp 68) = .int .i64 y.peer := by rw [← hA0]; rfl
          have e69 : a0.eval (.tmp 69) = .agg #[.string y.rule.pat, .int .i64 y.rule.dir, .int .i64 y.rule.qos, .string y.rule.loc, .string y.rule.rem] := by rw [← hA0]; rfl
          have e70 : a0.eval (.tmp 70) = .agg (lkA y) := by rw [← hA0]; rfl
          have e73 : a0.eval (.tmp 73) = .pointer (some ⟨(w.heap.size + 1 + 1 + 1 + 1), 3, none⟩) := by rw [← hA0]; rfl
          have e75 : a0.eval (.tmp 75) = .pointer (some ⟨wr.heap.size, 0, none⟩) := by rw [← hA0]; rfl
          have e76 : a0.eval (.tmp 76) = .int .i64 y.peer := by rw [← hA0]; rfl
          have e77 : a0.eval (.tmp 77) = .agg #[.string y.rule.pat, .int .i64 y.rule.dir, .int .i64 y.rule.qos, .string y.rule.loc, .string y.rule.rem] := by rw [← hA0]; rfl
          have e78 : a0.eval (.tmp 78) = .agg (lkA y) := by rw [← hA0]; rfl
          have e4 : a0.eval (.tmp 4) = .pointer (some ⟨(w.heap.size + 1 + 1 + 1), 0, none⟩) := by rw [← hA0]; rfl
          have e5 : a0.eval (.tmp 5) = .pointer (some ⟨(w.heap.size + 1 + 1 + 1 + 1), 0, none⟩) := by rw [← hA0]; rfl
          obtain ⟨si0, hsi0, hz00, hz10, hz20⟩ := made_parts info_lkM
          obtain ⟨si1, hsi1, hz01, hz11, hz21⟩ := made_parts info_rlk
          obtain ⟨li0, hli0, hl10⟩ := map_some info_lks
          obtain ⟨li1, hli1, hl11⟩ := map_some info_rlks
          refine appends2 (cA := ⟨(w.heap.size + 1 + 1 + 1), 3, 47, #[.int .i64 owner, .int .i64 version, vA, lA], 55, 6, w.heap.size, lA, lk.length, lk.flatMap lkC, (lkA y), 66, 71, 72, 81⟩) (cB := ⟨(w.heap.size + 1 + 1 + 1 + 1), 3, 69, #[.int .i64 owner, .int .i64 version, vB, lB], 86, 6, w.heap.size, lB, lk.length, lk.flatMap lkC, (lkA y), 74, 79, 80, 82⟩) (D := [66, 71, 72, 81, 74, 79, 80, 82]) (n := 10) (i0 := 1) (i1 := 6) (i2 := 7) (i3 := 16) (i4 := 17) (j0 := 9) (j1 := 14) (j2 := 15) (j3 := 18) (j4 := 19) ?_ ?_ (by kernel_rfl) (by decide) (by simp) (by kernel_rfl) (by dsimp only; decide) (own_apart2 mk.gA mk.gB (by decide)) ?_ ?_ (fun w' h0 => have hm := (Mod.drew (Mod.refl _ Z)).trans h0; ⟨mk.keepL hm q9 (made_apart q9 mk.a (by decide)) (made_apart q9 mk.b (by decide)) (by decide) (by decide), mk.keepL hm q10 (made_apart q10 mk.a (by decide)) (made_apart q10 mk.b (by decide)) (by decide) (by decide), mk.keepL hm q11 (made_apart q11 mk.a (by decide)) (made_apart q11 mk.b (by decide)) (by decide) (by decide)⟩) mk.size mk.size mk.a.drew mk.gA mk.b.drew mk.gB ?_
          · exact ⟨by rw [hsz]; dsimp only; decide, by rw [hsz]; dsimp only; decide, by rw [hsz]; dsimp only; decide, by rw [hsz]; dsimp only; decide, by dsimp only; decide, by dsimp only; decide, by dsimp only; decide, by dsimp only; decide, by dsimp only; decide, mk_load _ rfl rfl rfl rfl (by decide) e65 Tryd.underlying45, mk_make _ rfl rfl rfl rfl (by decide) e70 Tryd.underlying45 hsi0 hz00 hz10 (by decide) (by decide) (fill_six rfl), ⟨_, _, _, _, _, rfl, rfl, rfl, rfl, Tryd.underlying45, hsi0, hz00, hz10, hz20, rfl, by simp only; omega⟩, mk_fa _ rfl rfl rfl rfl (by decide) e4 (fun w => by go_simp), mk_put _ rfl rfl rfl rfl hli0 hl10, by dsimp only; decide, by dsimp only; decide, rfl, by simp [Value.oneCell', lkA], by simp only; unfold maxLen; omega, rfl⟩
          · exact ⟨by rw [hsz]; dsimp only; decide, by rw [hsz]; dsimp only; decide, by rw [hsz]; dsimp only; decide, by rw [hsz]; dsimp only; decide, by dsimp only; decide, by dsimp only; decide, by dsimp only; decide, by dsimp only; decide, by dsimp only; decide, mk_load _ rfl rfl rfl rfl (by decide) e73 Tryd.underlying67, mk_make _ rfl rfl rfl rfl (by decide) e78 Tryd.underlying67 hsi1 hz01 hz11 (by decide) (by decide) (fill_six rfl), ⟨_, _, _, _, _, rfl, rfl, rfl, rfl, Tryd.underlying67, hsi1, hz01, hz11, hz21, rfl, by simp only; omega⟩, mk_fa _ rfl rfl rfl rfl (by decide) e5 (fun w => by go_simp), mk_put _ rfl rfl rfl rfl hli1 hl11, by dsimp only; decide, by dsimp only; decide, rfl, by simp [Value.oneCell', lkA], by simp only; unfold maxLen; omega, rfl⟩
          · exact made_side mk.a mk.b (by decide) mk.gA mk.gB (by decide) (by decide) (own_apart2 mk.gA mk.gB (by decide))
          · exact made_side mk.b mk.a (by decide) mk.gB mk.gA (by decide) (by decide) (fun g h1 h2 => (own_apart2 mk.gA mk.gB (by decide)) g h2 h1)
          intro a w' vA' vB' hag hm hA hnA hB hnB hab
          have mX := (Mod.drew (Mod.refl _ Z)).trans hm
          dsimp only at mX hA hB hnA hnB
          have mk' := mk.stepL (x := y) mX hA hnA.2.1 hB hnB.2.1
          have md' := md.modL (B := 0) mk (by omega) (by omega) mX
          have ld : Hid (Mk2 w.heap.size (w.heap.size + 1 + 1 + 1) (w.heap.size + 1 + 1 + 1 + 1) owner version (fs.take 70) (ls.take (j + 1)) vA vB vA' vB' w' ∧ MadW w w' #[.int .i64 owner, .int .i64 version, .slice Af fs.length cf, .slice (some ⟨b, o, none⟩) ls.length cl]) := by
            have e : ls.take (j + 1) = lk ++ [y] := by rw [List.take_add_one, hlk, hy.out]; rfl
            rw [e]; exact Lib.hid ⟨mk', md'⟩
          obtain ⟨f, hf⟩ : ∃ f : Nat → Value, a = putAll f [66, 71, 72, 81, 74, 79, 80, 82] a0 := ⟨_, hag.form⟩
          rw [hf, ← hA0]
          simp only [putAll, Act.put, List.setIfInBounds_toArray, List.set_cons_succ, List.set_cons_zero]
          clear hf hag hA hnA hB hnB hab hm mX mk hA0 e65 e67 e68 e69 e70 e73 e75 e76 e77 e78 e4 e5 hsz mk' md'
          go_wp2_with fail
          go_roundw
          case rel => exact ⟨j + 1, vA', vB', by go_num, by omega, ld⟩
          case measure => simp [intOf]; omega
        · obtain rfl : j = M := by omega
          have hL2 := hL.out
          have hend : ls.take j = ls.take 20 := by
            rw [← HM.out]
            by_cases hl : ls.length ≤ 20
            · rw [Nat.min_eq_left hl, List.take_length, List.take_of_length_le hl]
            · rw [Nat.min_eq_right (by omega)]
          rw [hend] at hL2
          have hL2 := Lib.hid hL2
          clear hend hL
          go_wp2_with fail
          refine wp_region_held (S := fun w' => (Blk w' (w.heap.size + 1 + 1 + 1) #[.int .i64 owner, .int .i64 version, vA, lA] 47 ∧ Blk w' (w.heap.size + 1 + 1 + 1 + 1) #[.int .i64 owner, .int .i64 version, vB, lB] 69)) (by kernel_rfl) ?_
          change wpAnyH _ _ _ _ _ _ _ _ wr.drew
          have mk := hL2.out.1
          have md := hL2.out.2
          have sA : Blk wr.drew (w.heap.size + 1 + 1 + 1) #[.int .i64 owner, .int .i64 version, vA, lA] 47 ∧ Blk wr.drew (w.heap.size + 1 + 1 + 1 + 1) #[.int .i64 owner, .int .i64 version, vB, lB] 69 := ⟨mk.a.drew, mk.b.drew⟩
          refine wpAnyH_takeD (i := 0) (d := 84) (v := .agg #[.int .i64 owner, .int .i64 version, vA, lA]) rfl rfl (by kernel_rfl) (by kernel_rfl) (by kernel_rfl) (fun _ _ _ h => h) (y_load _ rfl rfl rfl (fun w hw => run_loadAt_row w _ _ _ _ _ _ hw.1 Tryd.underlying47 rfl lad_size)) sA ?_
          simp only [Act.put, List.setIfInBounds_toArray, List.set_cons_succ, List.set_cons_zero]
          refine wpAnyH_takeD (i := 1) (d := 85) (v := .agg #[.int .i64 owner, .int .i64 version, vB, lB]) rfl rfl (by kernel_rfl) (by kernel_rfl) (by kernel_rfl) (fun _ _ _ h => h) (y_load _ rfl rfl rfl (fun w hw => run_loadAt_row w _ _ _ _ _ _ hw.2 Tryd.underlying69 rfl rad_size)) sA ?_
          simp only [Act.put, List.setIfInBounds_toArray, List.set_cons_succ, List.set_cons_zero]
          obtain ⟨Z, hZ⟩ : ∃ Z, ((wr.drew.setRow (w.heap.size + 1) #[.int .i64 owner, .int .i64 version, vA, lA]).setRow (w.heap.size + 1 + 1) #[.int .i64 owner, .int .i64 version, vB, lB]) = Z := ⟨_, rfl⟩
          obtain ⟨e2, e3, eA, eB, eb⟩ := made_end mk md hZ
          have kA : Blk (wr.drew.setRow (w.heap.size + 1) #[.int .i64 owner, .int .i64 version, vA, lA]) (w.heap.size + 1 + 1 + 1) #[.int .i64 owner, .int .i64 version, vA, lA] 47 := mk.a.drew.setRow_other (by omega)
          have kB : Blk (wr.drew.setRow (w.heap.size + 1) #[.int .i64 owner, .int .i64 version, vA, lA]) (w.heap.size + 1 + 1 + 1 + 1) #[.int .i64 owner, .int .i64 version, vB, lB] 69 := mk.b.drew.setRow_other (by omega)
          refine two_store (k := 2) (l := 3) (dx := 2) (dy := 3) (vx := 84) (vy := 85) (bx := w.heap.size + 1) (by' := w.heap.size + 1 + 1) (cx := #[.int .i64 owner, .int .i64 version, vA, lA]) (cy := #[.int .i64 owner, .int .i64 version, vB, lB]) _ _ rfl rfl rfl rfl rfl rfl rfl rfl (by kernel_rfl) (by kernel_rfl) (by kernel_rfl) rfl rfl rfl rfl md.r2.drew md.r3.drew (by omega) lad_size rad_size rfl rfl (ad_one (a := ⟨owner, version, _, _⟩) eA) (ad_one (a := ⟨owner, version, _, _⟩) eB) ⟨kA, kB⟩ ⟨kA.setRow_other (by omega), kB.setRow_other (by omega)⟩ ?_
          rw [hZ]
          clear hZ kA kB sA
          go_wp2_with fail
          exact bodyPost_ret (v := .tuple #[.agg #[.int .i64 owner, .int .i64 version, vA, lA], .agg #[.int .i64 owner, .int .i64 version, vB, lB]]) (results_two_rows (P := Tryd.prog) (t1 := 2) (t2 := 3) (ty1 := 47) (ty2 := 69) (by kernel_rfl) _ _ (w.heap.size + 1) (w.heap.size + 1 + 1) 47 69 _ _ _ _ rfl rfl e2 e3 Tryd.underlying47 rfl lad_size Tryd.underlying69 rfl rad_size) rfl ⟨vA, lA, vB, lB, rfl, eA, eB, eb⟩


end Go.Proofs.YtenoaonlngndpaaDoor

/- The walk of the document's tail: is there a byte of a range at a place? -/
namespace Go.Proofs.YtenoaonlngndpaaDoor
open Go.RowKit Pl Go.Shelf
open Go.PlainAid (bt bt_nonneg bt_le get_bt bt_end)

theorem tail_any (s : ByteArray) (a : Nat) (lo hi : Int) (w : World) :
    Calls Tryd.prog 78 #[.string s, .int .i64 a, .int .i64 lo, .int .i64 hi] w fun e w' => e = .returned (.bool (tl s a lo hi)) ∧ w = w' := by
  have hbt := get_bt s
  have hb0 := bt_nonneg s a
  have hb1 := bt_le s a
  by_cases h : a < s.size
  · by_cases h2 : lo ≤ bt s a
    · by_cases h3 : bt s a ≤ hi
      · have ht := Lib.hid (tl_iff.2 ⟨h, h2, h3⟩)
        go_enter Tryd.func78, Tryd.ntmps78
        go_wp2
        go_ret
        exact ⟨ret_bool ht.out.symm, rfl⟩
      · have ht := Lib.hid (tl_not.2 (fun hc : a < s.size ∧ lo ≤ bt s a ∧ bt s a ≤ hi => h3 hc.2.2))
        go_enter Tryd.func78, Tryd.ntmps78
        go_wp2
        go_ret
        exact ⟨ret_bool ht.out.symm, rfl⟩
    · have ht := Lib.hid (tl_not.2 (fun hc : a < s.size ∧ lo ≤ bt s a ∧ bt s a ≤ hi => h2 hc.2.1))
      go_enter Tryd.func78, Tryd.ntmps78
      go_wp2
      go_ret
      exact ⟨ret_bool ht.out.symm, rfl⟩
  · have ht := Lib.hid (tl_not.2 (fun hc : a < s.size ∧ lo ≤ bt s a ∧ bt s a ≤ hi => h hc.1))
    go_enter Tryd.func78, Tryd.ntmps78
    go_wp2
    go_ret
    exact ⟨ret_bool ht.out.symm, rfl⟩
end Go.Proofs.YtenoaonlngndpaaDoor

/- The walks of the document's Char, Fault, Runes and Cut. -/
namespace Go.Proofs.YtenoaonlngndpaaDoor
open Go.RowKit Pl Go.Shelf
set_option linter.unusedVariables false
open Go.PlainAid (bt bt_nonneg bt_le get_bt bt_end)

theorem tail_at (s : ByteArray) (x : Int) (k : Nat) (hx : x = k) (lo hi : Int) (w : World) :
    Calls Tryd.prog 78 #[.string s, .int .i64 x, .int .i64 lo, .int .i64 hi] w fun e w' => e = .returned (.bool (tl s k lo hi)) ∧ w = w' := by
  subst hx
  exact tail_any s k lo hi w

theorem char_1 (s : ByteArray) (a : Nat) (ha : a < s.size) (w : World) (hs : s.size ≤ 281474976710656) (h1 : 1 ≤ bt s a) (h2 : bt s a ≤ 127) :
    Calls Tryd.prog 70 #[.string s, .int .i64 a] w fun e w' => e = .returned (.int .i64 (1)) ∧ w = w' := by
  have hbt := get_bt s
  have hb0 := bt_nonneg s a
  have hb1 := bt_le s a
  go_enter Tryd.func70, Tryd.ntmps70
  go_wp2_with fail
  go_wp2
  all_goals go_ret
  all_goals exact ⟨rfl, rfl⟩

theorem char_0a (s : ByteArray) (a : Nat) (ha : a < s.size) (w : World) (hs : s.size ≤ 281474976710656) (h1 : bt s a = 0) :
    Calls Tryd.prog 70 #[.string s, .int .i64 a] w fun e w' => e = .returned (.int .i64 (0)) ∧ w = w' := by
  have hbt := get_bt s
  have hb0 := bt_nonneg s a
  have hb1 := bt_le s a
  go_enter Tryd.func70, Tryd.ntmps70
  go_wp2_with fail
  refine (tail_at s _ (a + 1) (by omega) 128 191 _).mono ?_
  rintro e w' ⟨rfl, rfl⟩
  go_wp2_with fail
  refine (tail_at s _ (a + 2) (by omega) 128 191 _).mono ?_
  rintro e w' ⟨rfl, rfl⟩
  go_wp2_with fail
  refine (tail_at s _ (a + 3) (by omega) 128 191 _).mono ?_
  rintro e w' ⟨rfl, rfl⟩
  go_wp2_with fail
  go_wp2
  all_goals go_ret
  all_goals exact ⟨rfl, rfl⟩

theorem char_0b (s : ByteArray) (a : Nat) (ha : a < s.size) (w : World) (hs : s.size ≤ 281474976710656) (h1 : 128 ≤ bt s a) (h2 : bt s a ≤ 193) :
    Calls Tryd.prog 70 #[.string s, .int .i64 a] w fun e w' => e = .returned (.int .i64 (0)) ∧ w = w' := by
  have hbt := get_bt s
  have hb0 := bt_nonneg s a
  have hb1 := bt_le s a
  go_enter Tryd.func70, Tryd.ntmps70
  go_wp2_with fail
  refine (tail_at s _ (a + 1) (by omega) 128 191 _).mono ?_
  rintro e w' ⟨rfl, rfl⟩
  go_wp2_with fail
  refine (tail_at s _ (a + 2) (by omega) 128 191 _).mono ?_
  rintro e w' ⟨rfl, rfl⟩
  go_wp2_with fail
  refine (tail_at s _ (a + 3) (by omega) 128 191 _).mono ?_
  rintro e w' ⟨rfl, rfl⟩
  go_wp2_with fail
  go_wp2
  all_goals go_ret
  all_goals exact ⟨rfl, rfl⟩

theorem char_0c (s : ByteArray) (a : Nat) (ha : a < s.size) (w : World) (hs : s.size ≤ 281474976710656) (h1 : 245 ≤ bt s a) :
    Calls Tryd.prog 70 #[.string s, .int .i64 a] w fun e w' => e = .returned (.int .i64 (0)) ∧ w = w' := by
  have hbt := get_bt s
  have hb0 := bt_nonneg s a
  have hb1 := bt_le s a
  go_enter Tryd.func70, Tryd.ntmps70
  go_wp2_with fail
  refine (tail_at s _ (a + 1) (by omega) 128 191 _).mono ?_
  rintro e w' ⟨rfl, rfl⟩
  go_wp2_with fail
  refine (tail_at s _ (a + 2) (by omega) 128 191 _).mono ?_
  rintro e w' ⟨rfl, rfl⟩
  go_wp2_with fail
  refine (tail_at s _ (a + 3) (by omega) 128 191 _).mono ?_
  rintro e w' ⟨rfl, rfl⟩
  go_wp2_with fail
  go_wp2
  all_goals go_ret
  all_goals exact ⟨rfl, rfl⟩

theorem char_2 (s : ByteArray) (a : Nat) (ha : a < s.size) (w : World) (hs : s.size ≤ 281474976710656) (h1 : 194 ≤ bt s a) (h2 : bt s a ≤ 223) (t1 : tl s (a + 1) 128 191 = true) :
    Calls Tryd.prog 70 #[.string s, .int .i64 a] w fun e w' => e = .returned (.int .i64 (2)) ∧ w = w' := by
  have hbt := get_bt s
  have hb0 := bt_nonneg s a
  have hb1 := bt_le s a
  go_enter Tryd.func70, Tryd.ntmps70
  go_wp2_with fail
  refine (tail_at s _ (a + 1) (by omega) 128 191 _).mono ?_
  rintro e w' ⟨rfl, rfl⟩
  rw [t1]
  go_wp2_with fail
  refine (tail_at s _ (a + 2) (by omega) 128 191 _).mono ?_
  rintro e w' ⟨rfl, rfl⟩
  go_wp2_with fail
  refine (tail_at s _ (a + 3) (by omega) 128 191 _).mono ?_
  rintro e w' ⟨rfl, rfl⟩
  go_wp2_with fail
  go_wp2
  all_goals go_ret
  all_goals exact ⟨rfl, rfl⟩

theorem char_2n (s : ByteArray) (a : Nat) (ha : a < s.size) (w : World) (hs : s.size ≤ 281474976710656) (h1 : 194 ≤ bt s a) (h2 : bt s a ≤ 223) (t1 : tl s (a + 1) 128 191 = false) :
    Calls Tryd.prog 70 #[.string s, .int .i64 a] w fun e w' => e = .returned (.int .i64 (0)) ∧ w = w' := by
  have hbt := get_bt s
  have hb0 := bt_nonneg s a
  have hb1 := bt_le s a
  go_enter Tryd.func70, Tryd.ntmps70
  go_wp2_with fail
  refine (tail_at s _ (a + 1) (by omega) 128 191 _).mono ?_
  rintro e w' ⟨rfl, rfl⟩
  rw [t1]
  go_wp2_with fail
  refine (tail_at s _ (a + 2) (by omega) 128 191 _).mono ?_
  rintro e w' ⟨rfl, rfl⟩
  go_wp2_with fail
  refine (tail_at s _ (a + 3) (by omega) 128 191 _).mono ?_
  rintro e w' ⟨rfl, rfl⟩
  go_wp2_with fail
  go_wp2
  all_goals go_ret
  all_goals exact ⟨rfl, rfl⟩

theorem char_3n1 (s : ByteArray) (a : Nat) (ha : a < s.size) (w : World) (hs : s.size ≤ 281474976710656) (h1 : 224 ≤ bt s a) (h2 : bt s a ≤ 239) (t1 : tl s (a + 1) 128 191 = false) :
    Calls Tryd.prog 70 #[.string s, .int .i64 a] w fun e w' => e = .returned (.int .i64 (0)) ∧ w = w' := by
  have hbt := get_bt s
  have hb0 := bt_nonneg s a
  have hb1 := bt_le s a
  go_enter Tryd.func70, Tryd.ntmps70
  go_wp2_with fail
  refine (tail_at s _ (a + 1) (by omega) 128 191 _).mono ?_
  rintro e w' ⟨rfl, rfl⟩
  rw [t1]
  go_wp2_with fail
  refine (tail_at s _ (a + 2) (by omega) 128 191 _).mono ?_
  rintro e w' ⟨rfl, rfl⟩
  go_wp2_with fail
  refine (tail_at s _ (a + 3) (by omega) 128 191 _).mono ?_
  rintro e w' ⟨rfl, rfl⟩
  go_wp2_with fail
  go_wp2
  all_goals go_ret
  all_goals exact ⟨rfl, rfl⟩

theorem char_3n2 (s : ByteArray) (a : Nat) (ha : a < s.size) (w : World) (hs : s.size ≤ 281474976710656) (h1 : 224 ≤ bt s a) (h2 : bt s a ≤ 239) (t1 : tl s (a + 1) 128 191 = true) (t2 : tl s (a + 2) 128 191 = false) :
    Calls Tryd.prog 70 #[.string s, .int .i64 a] w fun e w' => e = .returned (.int .i64 (0)) ∧ w = w' := by
  have hbt := get_bt s
  have hb0 := bt_nonneg s a
  have hb1 := bt_le s a
  go_enter Tryd.func70, Tryd.ntmps70
  go_wp2_with fail
  refine (tail_at s _ (a + 1) (by omega) 128 191 _).mono ?_
  rintro e w' ⟨rfl, rfl⟩
  rw [t1]
  go_wp2_with fail
  refine (tail_at s _ (a + 2) (by omega) 128 191 _).mono ?_
  rintro e w' ⟨rfl, rfl⟩
  rw [t2]
  go_wp2_with fail
  refine (tail_at s _ (a + 3) (by omega) 128 191 _).mono ?_
  rintro e w' ⟨rfl, rfl⟩
  go_wp2_with fail
  go_wp2
  all_goals go_ret
  all_goals exact ⟨rfl, rfl⟩

theorem char_3 (s : ByteArray) (a : Nat) (ha : a < s.size) (w : World) (hs : s.size ≤ 281474976710656) (h1 : 224 ≤ bt s a) (h2 : bt s a ≤ 239) (t1 : tl s (a + 1) 128 191 = true) (t2 : tl s (a + 2) 128 191 = true) (h3 : (bt s a == 224) = false) (h4 : (bt s a == 237) = false) :
    Calls Tryd.prog 70 #[.string s, .int .i64 a] w fun e w' => e = .returned (.int .i64 (3)) ∧ w = w' := by
  have hbt := get_bt s
  have hb0 := bt_nonneg s a
  have hb1 := bt_le s a
  go_enter Tryd.func70, Tryd.ntmps70
  go_wp2_with fail
  refine (tail_at s _ (a + 1) (by omega) 128 191 _).mono ?_
  rintro e w' ⟨rfl, rfl⟩
  rw [t1]
  go_wp2_with fail
  refine (tail_at s _ (a + 2) (by omega) 128 191 _).mono ?_
  rintro e w' ⟨rfl, rfl⟩
  rw [t2]
  go_wp2_with fail
  refine (tail_at s _ (a + 3) (by omega) 128 191 _).mono ?_
  rintro e w' ⟨rfl, rfl⟩
  go_wp2_with fail
  refine (tail_at s _ (a + 1) (by omega) 160 191 _).mono ?_
  rintro e w' ⟨rfl, rfl⟩
  go_wp2_with fail
  refine (tail_at s _ (a + 1) (by omega) 128 159 _).mono ?_
  rintro e w' ⟨rfl, rfl⟩
  go_wp2_with fail
  go_wp2
  all_goals go_ret
  all_goals exact ⟨rfl, rfl⟩

theorem char_3_224_true (s : ByteArray) (a : Nat) (ha : a < s.size) (w : World) (hs : s.size ≤ 281474976710656) (h1 : 224 ≤ bt s a) (h2 : bt s a ≤ 239) (t1 : tl s (a + 1) 128 191 = true) (t2 : tl s (a + 2) 128 191 = true) (h3 : bt s a = 224) (t4 : tl s (a + 1) 160 191 = true) :
    Calls Tryd.prog 70 #[.string s, .int .i64 a] w fun e w' => e = .returned (.int .i64 (3)) ∧ w = w' := by
  have hbt := get_bt s
  have hb0 := bt_nonneg s a
  have hb1 := bt_le s a
  go_enter Tryd.func70, Tryd.ntmps70
  go_wp2_with fail
  refine (tail_at s _ (a + 1) (by omega) 128 191 _).mono ?_
  rintro e w' ⟨rfl, rfl⟩
  rw [t1]
  go_wp2_with fail
  refine (tail_at s _ (a + 2) (by omega) 128 191 _).mono ?_
  rintro e w' ⟨rfl, rfl⟩
  rw [t2]
  go_wp2_with fail
  refine (tail_at s _ (a + 3) (by omega) 128 191 _).mono ?_
  rintro e w' ⟨rfl, rfl⟩
  go_wp2_with fail
  refine (tail_at s _ (a + 1) (by omega) 160 191 _).mono ?_
  rintro e w' ⟨rfl, rfl⟩
  rw [t4]
  go_wp2_with fail
  refine (tail_at s _ (a + 1) (by omega) 128 159 _).mono ?_
  rintro e w' ⟨rfl, rfl⟩
  go_wp2_with fail
  go_wp2
  all_goals go_ret
  all_goals exact ⟨rfl, rfl⟩

theorem char_3_224_false (s : ByteArray) (a : Nat) (ha : a < s.size) (w : World) (hs : s.size ≤ 281474976710656) (h1 : 224 ≤ bt s a) (h2 : bt s a ≤ 239) (t1 : tl s (a + 1) 128 191 = true) (t2 : tl s (a + 2) 128 191 = true) (h3 : bt s a = 224) (t4 : tl s (a + 1) 160 191 = false) :
    Calls Tryd.prog 70 #[.string s, .int .i64 a] w fun e w' => e = .returned (.int .i64 (0)) ∧ w = w' := by
  have hbt := get_bt s
  have hb0 := bt_nonneg s a
  have hb1 := bt_le s a
  go_enter Tryd.func70, Tryd.ntmps70
  go_wp2_with fail
  refine (tail_at s _ (a + 1) (by omega) 128 191 _).mono ?_
  rintro e w' ⟨rfl, rfl⟩
  rw [t1]
  go_wp2_with fail
  refine (tail_at s _ (a + 2) (by omega) 128 191 _).mono ?_
  rintro e w' ⟨rfl, rfl⟩
  rw [t2]
  go_wp2_with fail
  refine (tail_at s _ (a + 3) (by omega) 128 191 _).mono ?_
  rintro e w' ⟨rfl, rfl⟩
  go_wp2_with fail
  refine (tail_at s _ (a + 1) (by omega) 160 191 _).mono ?_
  rintro e w' ⟨rfl, rfl⟩
  rw [t4]
  go_wp2_with fail
  refine (tail_at s _ (a + 1) (by omega) 128 159 _).mono ?_
  rintro e w' ⟨rfl, rfl⟩
  go_wp2_with fail
  go_wp2
  all_goals go_ret
  all_goals exact ⟨rfl, rfl⟩

theorem char_3_237_true (s : ByteArray) (a : Nat) (ha : a < s.size) (w : World) (hs : s.size ≤ 281474976710656) (h1 : 224 ≤ bt s a) (h2 : bt s a ≤ 239) (t1 : tl s (a + 1) 128 191 = true) (t2 : tl s (a + 2) 128 191 = true) (h3 : bt s a = 237) (t4 : tl s (a + 1) 128 159 = true) :
    Calls Tryd.prog 70 #[.string s, .int .i64 a] w fun e w' => e = .returned (.int .i64 (3)) ∧ w = w' := by
  have hbt := get_bt s
  have hb0 := bt_nonneg s a
  have hb1 := bt_le s a
  go_enter Tryd.func70, Tryd.ntmps70
  go_wp2_with fail
  refine (tail_at s _ (a + 1) (by omega) 128 191 _).mono ?_
  rintro e w' ⟨rfl, rfl⟩
  rw [t1]
  go_wp2_with fail
  refine (tail_at s _ (a + 2) (by omega) 128 191 _).mono ?_
  rintro e w' ⟨rfl, rfl⟩
  rw [t2]
  go_wp2_with fail
  refine (tail_at s _ (a + 3) (by omega) 128 191 _).mono ?_
  rintro e w' ⟨rfl, rfl⟩
  go_wp2_with fail
  refine (tail_at s _ (a + 1) (by omega) 160 191 _).mono ?_
  rintro e w' ⟨rfl, rfl⟩
  go_wp2_with fail
  refine (tail_at s _ (a + 1) (by omega) 128 159 _).mono ?_
  rintro e w' ⟨rfl, rfl⟩
  rw [t4]
  go_wp2_with fail
  go_wp2
  all_goals go_ret
  all_goals exact ⟨rfl, rfl⟩

theorem char_3_237_false (s : ByteArray) (a : Nat) (ha : a < s.size) (w : World) (hs : s.size ≤ 281474976710656) (h1 : 224 ≤ bt s a) (h2 : bt s a ≤ 239) (t1 : tl s (a + 1) 128 191 = true) (t2 : tl s (a + 2) 128 191 = true) (h3 : bt s a = 237) (t4 : tl s (a + 1) 128 159 = false) :
    Calls Tryd.prog 70 #[.string s, .int .i64 a] w fun e w' => e = .returned (.int .i64 (0)) ∧ w = w' := by
  have hbt := get_bt s
  have hb0 := bt_nonneg s a
  have hb1 := bt_le s a
  go_enter Tryd.func70, Tryd.ntmps70
  go_wp2_with fail
  refine (tail_at s _ (a + 1) (by omega) 128 191 _).mono ?_
  rintro e w' ⟨rfl, rfl⟩
  rw [t1]
  go_wp2_with fail
  refine (tail_at s _ (a + 2) (by omega) 128 191 _).mono ?_
  rintro e w' ⟨rfl, rfl⟩
  rw [t2]
  go_wp2_with fail
  refine (tail_at s _ (a + 3) (by omega) 128 191 _).mono ?_
  rintro e w' ⟨rfl, rfl⟩
  go_wp2_with fail
  refine (tail_at s _ (a + 1) (by omega) 160 191 _).mono ?_
  rintro e w' ⟨rfl, rfl⟩
  go_wp2_with fail
  refine (tail_at s _ (a + 1) (by omega) 128 159 _).mono ?_
  rintro e w' ⟨rfl, rfl⟩
  rw [t4]
  go_wp2_with fail
  go_wp2
  all_goals go_ret
  all_goals exact ⟨rfl, rfl⟩

theorem char_4n1 (s : ByteArray) (a : Nat) (ha : a < s.size) (w : World) (hs : s.size ≤ 281474976710656) (h1 : 240 ≤ bt s a) (h2 : bt s a ≤ 244) (t1 : tl s (a + 1) 128 191 = false) :
    Calls Tryd.prog 70 #[.string s, .int .i64 a] w fun e w' => e = .returned (.int .i64 (0)) ∧ w = w' := by
  have hbt := get_bt s
  have hb0 := bt_nonneg s a
  have hb1 := bt_le s a
  go_enter Tryd.func70, Tryd.ntmps70
  go_wp2_with fail
  refine (tail_at s _ (a + 1) (by omega) 128 191 _).mono ?_
  rintro e w' ⟨rfl, rfl⟩
  rw [t1]
  go_wp2_with fail
  refine (tail_at s _ (a + 2) (by omega) 128 191 _).mono ?_
  rintro e w' ⟨rfl, rfl⟩
  go_wp2_with fail
  refine (tail_at s _ (a + 3) (by omega) 128 191 _).mono ?_
  rintro e w' ⟨rfl, rfl⟩
  go_wp2_with fail
  go_wp2
  all_goals go_ret
  all_goals exact ⟨rfl, rfl⟩

theorem char_4n2 (s : ByteArray) (a : Nat) (ha : a < s.size) (w : World) (hs : s.size ≤ 281474976710656) (h1 : 240 ≤ bt s a) (h2 : bt s a ≤ 244) (t1 : tl s (a + 1) 128 191 = true) (t2 : tl s (a + 2) 128 191 = false) :
    Calls Tryd.prog 70 #[.string s, .int .i64 a] w fun e w' => e = .returned (.int .i64 (0)) ∧ w = w' := by
  have hbt := get_bt s
  have hb0 := bt_nonneg s a
  have hb1 := bt_le s a
  go_enter Tryd.func70, Tryd.ntmps70
  go_wp2_with fail
  refine (tail_at s _ (a + 1) (by omega) 128 191 _).mono ?_
  rintro e w' ⟨rfl, rfl⟩
  rw [t1]
  go_wp2_with fail
  refine (tail_at s _ (a + 2) (by omega) 128 191 _).mono ?_
  rintro e w' ⟨rfl, rfl⟩
  rw [t2]
  go_wp2_with fail
  refine (tail_at s _ (a + 3) (by omega) 128 191 _).mono ?_
  rintro e w' ⟨rfl, rfl⟩
  go_wp2_with fail
  go_wp2
  all_goals go_ret
  all_goals exact ⟨rfl, rfl⟩

theorem char_4n3 (s : ByteArray) (a : Nat) (ha : a < s.size) (w : World) (hs : s.size ≤ 281474976710656) (h1 : 240 ≤ bt s a) (h2 : bt s a ≤ 244) (t1 : tl s (a + 1) 128 191 = true) (t2 : tl s (a + 2) 128 191 = true) (t3 : tl s (a + 3) 128 191 = false) :
    Calls Tryd.prog 70 #[.string s, .int .i64 a] w fun e w' => e = .returned (.int .i64 (0)) ∧ w = w' := by
  have hbt := get_bt s
  have hb0 := bt_nonneg s a
  have hb1 := bt_le s a
  go_enter Tryd.func70, Tryd.ntmps70
  go_wp2_with fail
  refine (tail_at s _ (a + 1) (by omega) 128 191 _).mono ?_
  rintro e w' ⟨rfl, rfl⟩
  rw [t1]
  go_wp2_with fail
  refine (tail_at s _ (a + 2) (by omega) 128 191 _).mono ?_
  rintro e w' ⟨rfl, rfl⟩
  rw [t2]
  go_wp2_with fail
  refine (tail_at s _ (a + 3) (by omega) 128 191 _).mono ?_
  rintro e w' ⟨rfl, rfl⟩
  rw [t3]
  go_wp2_with fail
  go_wp2
  all_goals go_ret
  all_goals exact ⟨rfl, rfl⟩

theorem char_4 (s : ByteArray) (a : Nat) (ha : a < s.size) (w : World) (hs : s.size ≤ 281474976710656) (h1 : 240 ≤ bt s a) (h2 : bt s a ≤ 244) (t1 : tl s (a + 1) 128 191 = true) (t2 : tl s (a + 2) 128 191 = true) (t3 : tl s (a + 3) 128 191 = true) (h3 : (bt s a == 240) = false) (h4 : (bt s a == 244) = false) :
    Calls Tryd.prog 70 #[.string s, .int .i64 a] w fun e w' => e = .returned (.int .i64 (4)) ∧ w = w' := by
  have hbt := get_bt s
  have hb0 := bt_nonneg s a
  have hb1 := bt_le s a
  go_enter Tryd.func70, Tryd.ntmps70
  go_wp2_with fail
  refine (tail_at s _ (a + 1) (by omega) 128 191 _).mono ?_
  rintro e w' ⟨rfl, rfl⟩
  rw [t1]
  go_wp2_with fail
  refine (tail_at s _ (a + 2) (by omega) 128 191 _).mono ?_
  rintro e w' ⟨rfl, rfl⟩
  rw [t2]
  go_wp2_with fail
  refine (tail_at s _ (a + 3) (by omega) 128 191 _).mono ?_
  rintro e w' ⟨rfl, rfl⟩
  rw [t3]
  go_wp2_with fail
  refine (tail_at s _ (a + 1) (by omega) 144 191 _).mono ?_
  rintro e w' ⟨rfl, rfl⟩
  go_wp2_with fail
  refine (tail_at s _ (a + 1) (by omega) 128 143 _).mono ?_
  rintro e w' ⟨rfl, rfl⟩
  go_wp2_with fail
  go_wp2
  all_goals go_ret
  all_goals exact ⟨rfl, rfl⟩

theorem char_4_240_true (s : ByteArray) (a : Nat) (ha : a < s.size) (w : World) (hs : s.size ≤ 281474976710656) (h1 : 240 ≤ bt s a) (h2 : bt s a ≤ 244) (t1 : tl s (a + 1) 128 191 = true) (t2 : tl s (a + 2) 128 191 = true) (t3 : tl s (a + 3) 128 191 = true) (h3 : bt s a = 240) (t4 : tl s (a + 1) 144 191 = true) :
    Calls Tryd.prog 70 #[.string s, .int .i64 a] w fun e w' => e = .returned (.int .i64 (4)) ∧ w = w' := by
  have hbt := get_bt s
  have hb0 := bt_nonneg s a
  have hb1 := bt_le s a
  go_enter Tryd.func70, Tryd.ntmps70
  go_wp2_with fail
  refine (tail_at s _ (a + 1) (by omega) 128 191 _).mono ?_
  rintro e w' ⟨rfl, rfl⟩
  rw [t1]
  go_wp2_with fail
  refine (tail_at s _ (a + 2) (by omega) 128 191 _).mono ?_
  rintro e w' ⟨rfl, rfl⟩
  rw [t2]
  go_wp2_with fail
  refine (tail_at s _ (a + 3) (by omega) 128 191 _).mono ?_
  rintro e w' ⟨rfl, rfl⟩
  rw [t3]
  go_wp2_with fail
  refine (tail_at s _ (a + 1) (by omega) 144 191 _).mono ?_
  rintro e w' ⟨rfl, rfl⟩
  rw [t4]
  go_wp2_with fail
  refine (tail_at s _ (a + 1) (by omega) 128 143 _).mono ?_
  rintro e w' ⟨rfl, rfl⟩
  go_wp2_with fail
  go_wp2
  all_goals go_ret
  all_goals exact ⟨rfl, rfl⟩

theorem char_4_240_false (s : ByteArray) (a : Nat) (ha : a < s.size) (w : World) (hs : s.size ≤ 281474976710656) (h1 : 240 ≤ bt s a) (h2 : bt s a ≤ 244) (t1 : tl s (a + 1) 128 191 = true) (t2 : tl s (a + 2) 128 191 = true) (t3 : tl s (a + 3) 128 191 = true) (h3 : bt s a = 240) (t4 : tl s (a + 1) 144 191 = false) :
    Calls Tryd.prog 70 #[.string s, .int .i64 a] w fun e w' => e = .returned (.int .i64 (0)) ∧ w = w' := by
  have hbt := get_bt s
  have hb0 := bt_nonneg s a
  have hb1 := bt_le s a
  go_enter Tryd.func70, Tryd.ntmps70
  go_wp2_with fail
  refine (tail_at s _ (a + 1) (by omega) 128 191 _).mono ?_
  rintro e w' ⟨rfl, rfl⟩
  rw [t1]
  go_wp2_with fail
  refine (tail_at s _ (a + 2) (by omega) 128 191 _).mono ?_
  rintro e w' ⟨rfl, rfl⟩
  rw [t2]
  go_wp2_with fail
  refine (tail_at s _ (a + 3) (by omega) 128 191 _).mono ?_
  rintro e w' ⟨rfl, rfl⟩
  rw [t3]
  go_wp2_with fail
  refine (tail_at s _ (a + 1) (by omega) 144 191 _).mono ?_
  rintro e w' ⟨rfl, rfl⟩
  rw [t4]
  go_wp2_with fail
  refine (tail_at s _ (a + 1) (by omega) 128 143 _).mono ?_
  rintro e w' ⟨rfl, rfl⟩
  go_wp2_with fail
  go_wp2
  all_goals go_ret
  all_goals exact ⟨rfl, rfl⟩

theorem char_4_244_true (s : ByteArray) (a : Nat) (ha : a < s.size) (w : World) (hs : s.size ≤ 281474976710656) (h1 : 240 ≤ bt s a) (h2 : bt s a ≤ 244) (t1 : tl s (a + 1) 128 191 = true) (t2 : tl s (a + 2) 128 191 = true) (t3 : tl s (a + 3) 128 191 = true) (h3 : bt s a = 244) (t4 : tl s (a + 1) 128 143 = true) :
    Calls Tryd.prog 70 #[.string s, .int .i64 a] w fun e w' => e = .returned (.int .i64 (4)) ∧ w = w' := by
  have hbt := get_bt s
  have hb0 := bt_nonneg s a
  have hb1 := bt_le s a
  go_enter Tryd.func70, Tryd.ntmps70
  go_wp2_with fail
  refine (tail_at s _ (a + 1) (by omega) 128 191 _).mono ?_
  rintro e w' ⟨rfl, rfl⟩
  rw [t1]
  go_wp2_with fail
  refine (tail_at s _ (a + 2) (by omega) 128 191 _).mono ?_
  rintro e w' ⟨rfl, rfl⟩
  rw [t2]
  go_wp2_with fail
  refine (tail_at s _ (a + 3) (by omega) 128 191 _).mono ?_
  rintro e w' ⟨rfl, rfl⟩
  rw [t3]
  go_wp2_with fail
  refine (tail_at s _ (a + 1) (by omega) 144 191 _).mono ?_
  rintro e w' ⟨rfl, rfl⟩
  go_wp2_with fail
  refine (tail_at s _ (a + 1) (by omega) 128 143 _).mono ?_
  rintro e w' ⟨rfl, rfl⟩
  rw [t4]
  go_wp2_with fail
  go_wp2
  all_goals go_ret
  all_goals exact ⟨rfl, rfl⟩

theorem char_4_244_false (s : ByteArray) (a : Nat) (ha : a < s.size) (w : World) (hs : s.size ≤ 281474976710656) (h1 : 240 ≤ bt s a) (h2 : bt s a ≤ 244) (t1 : tl s (a + 1) 128 191 = true) (t2 : tl s (a + 2) 128 191 = true) (t3 : tl s (a + 3) 128 191 = true) (h3 : bt s a = 244) (t4 : tl s (a + 1) 128 143 = false) :
    Calls Tryd.prog 70 #[.string s, .int .i64 a] w fun e w' => e = .returned (.int .i64 (0)) ∧ w = w' := by
  have hbt := get_bt s
  have hb0 := bt_nonneg s a
  have hb1 := bt_le s a
  go_enter Tryd.func70, Tryd.ntmps70
  go_wp2_with fail
  refine (tail_at s _ (a + 1) (by omega) 128 191 _).mono ?_
  rintro e w' ⟨rfl, rfl⟩
  rw [t1]
  go_wp2_with fail
  refine (tail_at s _ (a + 2) (by omega) 128 191 _).mono ?_
  rintro e w' ⟨rfl, rfl⟩
  rw [t2]
  go_wp2_with fail
  refine (tail_at s _ (a + 3) (by omega) 128 191 _).mono ?_
  rintro e w' ⟨rfl, rfl⟩
  rw [t3]
  go_wp2_with fail
  refine (tail_at s _ (a + 1) (by omega) 144 191 _).mono ?_
  rintro e w' ⟨rfl, rfl⟩
  go_wp2_with fail
  refine (tail_at s _ (a + 1) (by omega) 128 143 _).mono ?_
  rintro e w' ⟨rfl, rfl⟩
  rw [t4]
  go_wp2_with fail
  go_wp2
  all_goals go_ret
  all_goals exact ⟨rfl, rfl⟩
end Go.Proofs.YtenoaonlngndpaaDoor
