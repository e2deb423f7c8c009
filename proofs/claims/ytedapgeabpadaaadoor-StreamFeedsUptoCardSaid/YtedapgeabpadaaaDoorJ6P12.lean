/- Parts of the proof, joined: RgM, RgV, CallTwo, RgW. -/
import Derived.Test.YtedapgeabpadaaaDoorJ6P11
import Derived.Test.YtedapgeabpadaaaDoorJ6P7
import Derived.Laws.CopyOwn
import Derived.Test.YtedapgeabpadaaaDoorJ6P10
import Derived.Test.YtedapgeabpadaaaDoorJ6P2
set_option linter.unusedVariables false
set_option linter.unusedSimpArgs false
namespace Go.Proofs.YtedapgeabpadaaaDoor
open Go.RowKit Pl Go.PlainAid

def nHd : Hd := ⟨none, 0, 0⟩
def nHs : Hs := ⟨nHd, nHd, nHd, nHd, nHd⟩
/-- A packet's lists, in memory of their own. -/
structure PkD (B : Nat) (w : World) (p : Pk) (m : Hs) : Prop where
  ps : Sl B w 122 4 m.p.v p.ps.length (flat p.ps)
  wps : Sl B w 122 4 m.w.v p.wps.length (flat p.wps)
  cs : Sl B w 3 1 m.c.v p.codes.length (p.codes.map (Value.int .i64))
  ss : Sl B w 83 5 m.s.v p.subs.length (sbF p.subs)
  fs : Sl B w 9 1 m.f.v p.filters.length (p.filters.map Value.string)
theorem PkD.same {B : Nat} {w w' : World} {p : Pk} {m : Hs} (h : PkD B w p m) (hk : ∀ (e : TypeId) (size : Nat) v n xs, Sl B w e size v n xs → (e = 122 ∨ e = 3 ∨ e = 83 ∨ e = 9) → Sl B w' e size v n xs) : PkD B w' p m :=
  ⟨hk _ _ _ _ _ h.ps (.inl rfl), hk _ _ _ _ _ h.wps (.inl rfl), hk _ _ _ _ _ h.cs (.inr (.inl rfl)), hk _ _ _ _ _ h.ss (.inr (.inr (.inl rfl))), hk _ _ _ _ _ h.fs (.inr (.inr (.inr rfl)))⟩
theorem PkD.below {B : Nat} {w w' : World} {p : Pk} {m : Hs} (h : PkD B w p m) (b : Below w.heap.size w w') : PkD B w' p m := h.same fun _ _ _ _ _ s _ => s.below b
theorem PkD.mono {B B' : Nat} {w : World} {p : Pk} {m : Hs} (h : PkD B w p m) (hB : B' ≤ B) : PkD B' w p m := ⟨h.ps.mono' hB, h.wps.mono' hB, h.cs.mono' hB, h.ss.mono' hB, h.fs.mono' hB⟩
theorem PkD.row {B : Nat} {w : World} {p : Pk} {m : Hs} {T : TypeId} (h : PkD B w p m) {g : Nat} {cs : Array Value} (hb : Blk w g cs T) (hT : T = 118 ∨ T = 52) (cs' : Array Value) : PkD B (w.setRow g cs') p m :=
  h.same (fun e size v n xs hs he => hs.same fun k hk => setRow_other w g k cs' (fun c => hs.ne hb (by rcases hT with rfl | rfl <;> rcases he with rfl | rfl | rfl | rfl <;> decide) (by rw [hk, c])))
theorem PkD.cell {B : Nat} {w : World} {p : Pk} {m : Hs} {T : TypeId} (h : PkD B w p m) {g : Nat} {cs : Array Value} (hb : Blk w g cs T) (hT : T = 118 ∨ T = 52) (i : Nat) (u : Value) : PkD B (w.setCell ⟨g, i, none⟩ u) p m :=
  h.same (fun e size v n xs hs he => hs.set i u (hs.ne hb (by rcases hT with rfl | rfl <;> rcases he with rfl | rfl | rfl | rfl <;> decide)))
theorem PkD.zero (B : Nat) (w : World) : PkD B w zPk nHs := ⟨Sl.nil _ _ _ _, Sl.nil _ _ _ _, Sl.nil _ _ _ _, Sl.nil _ _ _ _, Sl.nil _ _ _ _⟩
theorem in_size : (Tryd.prog.info? 118).map (·.size) = some 3 := by kernel_rfl
theorem dpk_size : (Tryd.prog.info? 52).map (·.size) = some 26 := by kernel_rfl
theorem in_one (s : ByteArray) (a c : Int) : (inA s a c).all (·.oneCell') = true := by simp [inA]; simp [Value.oneCell']
theorem dpk_one (p : Pk) (m : Hs) : (pkA .i64 p m).all (·.oneCell') = true := by simp [pkA]; simp [Value.oneCell']
/-- A function's own blocks: what came in (b0: the place; b1: the packet), the results' (b2, b3). -/
structure Dw (B : Nat) (w : World) (s : ByteArray) (t : Tt) (p : Pk) (m : Hs) (X : World) : Prop where
  bl : Below w.heap.size w X
  r : Blk X w.heap.size (inA s t.1 t.2) 118
  k : Blk X (w.heap.size + 1) (pkA .i64 p m) 52
  q : Blk X (w.heap.size + 2) (inA eS 0 0) 118
  z : Blk X (w.heap.size + 3) (pkA .i64 zPk nHs) 52
  d : PkD B X p m
  hB : B ≤ w.heap.size
section
variable {B : Nat} {w : World} {s : ByteArray} {t : Tt} {p : Pk} {m : Hs} {X : World}
theorem Dw.step (h : Dw B w s t p m X) {Y : World} (b : Below X.heap.size X Y) : Dw B w s t p m Y := ⟨h.bl.trans (b.mono h.bl.size), h.r.of_below b, h.k.of_below b, h.q.of_below b, h.z.of_below b, h.d.below b, h.hB⟩
theorem Dw.put (h : Dw B w s t p m X) (u : Tt) : Dw B w s u p m (X.setRow w.heap.size (inA s u.1 u.2)) :=
  ⟨below_setRow h.bl (Nat.le_refl _) _, h.r.row0 _, h.k.row1 (by omega) _, h.q.row1 (by omega) _, h.z.row1 (by omega) _, h.d.row h.r (.inl rfl) _, h.hB⟩
theorem Dw.set (h : Dw B w s t p m X) (i : Nat) (v : Value) (p' : Pk) (m' : Hs) (e : (pkA .i64 p m).setIfInBounds i v = pkA .i64 p' m') (ho : PkD B X p' m') : Dw B w s t p' m' (X.setCell ⟨w.heap.size + 1, i, none⟩ v) :=
  ⟨h.bl.setCell (by show w.heap.size ≤ w.heap.size + 1; omega) v, h.r.other (by omega) i v, by rw [← e]; exact h.k.set i v, h.q.other (by omega) i v, h.z.other (by omega) i v, ho.cell h.k (.inr rfl) i v, h.hB⟩
end
theorem zpk_i64 : pkA .i64 zPk nHs = #[.int .i64 0, .bool false, .bool false, .int .i64 0, .int .i64 0, .string ⟨#[]⟩, .string ⟨#[]⟩, .int .i64 0, .slice none 0 0, .slice none 0 0, .string ⟨#[]⟩, .bool false, .int .i64 0, .bool false, .string ⟨#[]⟩, .string ⟨#[]⟩, .int .i64 0, .bool false, .slice none 0 0, .bool false, .bool false, .string ⟨#[]⟩, .string ⟨#[]⟩, .bool false, .slice none 0 0, .slice none 0 0] := by rfl
theorem Dw.new {B : Nat} {w : World} (s : ByteArray) (t : Tt) (p : Pk) (m : Hs) (hB : B ≤ w.heap.size) (hd : PkD B w p m) :
    Dw B w s t p m ((((w.alloc (.cells (inA s t.1 t.2) 118)).alloc (.cells (pkA .i64 p m) 52)).alloc (.cells (inA eS 0 0) 118)).alloc (.cells (pkA .i64 zPk nHs) 52)) := by
  have b0 := (Below.refl w.heap.size w).alloc (Nat.le_refl _) (.cells (inA s t.1 t.2) 118)
  have k0 := blkAt w (inA s t.1 t.2) 118 rfl
  have k1 := blkAt (w.alloc (.cells (inA s t.1 t.2) 118)) (pkA .i64 p m) 52 (b := w.heap.size + 1) (by simp)
  have b1 := b0.alloc b0.size (.cells (pkA .i64 p m) 52)
  have k0 := k0.alloc (.cells (pkA .i64 p m) 52)
  obtain ⟨Y, hY⟩ : ∃ Y, (w.alloc (.cells (inA s t.1 t.2) 118)).alloc (.cells (pkA .i64 p m) 52) = Y := ⟨_, rfl⟩
  have sz : Y.heap.size = w.heap.size + 2 := by rw [← hY]; simp
  rw [hY] at b1 k0 k1 ⊢
  have k2 := blkAt Y (inA eS 0 0) 118 (b := w.heap.size + 2) sz.symm
  have b2 := b1.alloc b1.size (.cells (inA eS 0 0) 118)
  have k3 := blkAt (Y.alloc (.cells (inA eS 0 0) 118)) (pkA .i64 zPk nHs) 52 (b := w.heap.size + 3) (by simp; omega)
  have b3 := b2.alloc b2.size (.cells (pkA .i64 zPk nHs) 52)
  exact ⟨b3, (k0.alloc _).alloc _, (k1.alloc _).alloc _, k2.alloc _, k3, hd.below b3, hB⟩
/-- What a part that reads into a packet comes to. -/
def DwPost (B : Nat) (w : World) (s : ByteArray) (x : Tt × Pk) (e : Ending) (w' : World) : Prop := ∃ m, e = .returned (.tuple #[.agg (inA s x.1.1 x.1.2), .agg (pkA .i64 x.2 m)]) ∧ PkD B w' x.2 m ∧ Below w.heap.size w w'
theorem results_two_rows {P : Program} {fn : Func} {t1 t2 : Nat} {ty1 ty2 : TypeId} (h : fn.results = #[.cell t1 ty1, .cell t2 ty2]) (tmps : Array Value) (w : World) (g1 g2 : Nat) (s1 s2 : TypeId) (c1 c2 : Array Value) (d1 d2 : TypeDesc)
    (p1 : tmps.getD t1 undef = .pointer (some ⟨g1, 0, none⟩)) (p2 : tmps.getD t2 undef = .pointer (some ⟨g2, 0, none⟩)) (k1 : Blk w g1 c1 s1) (k2 : Blk w g2 c2 s2)
    (u1 : P.underlying ty1 = some d1) (q1 : (match d1 with | .struct _ | .array _ _ => true | _ => false) = true) (i1 : (P.info? ty1).map (·.size) = some c1.size)
    (u2 : P.underlying ty2 = some d2) (q2 : (match d2 with | .struct _ | .array _ _ => true | _ => false) = true) (i2 : (P.info? ty2).map (·.size) = some c2.size) :
    (results fn tmps).run P w = .ok (.tuple #[.agg c1, .agg c2]) w := by
  have hp1 : tmps[t1]?.getD undef = .pointer (some ⟨g1, 0, none⟩) := by simpa using p1
  have hp2 : tmps[t2]?.getD undef = .pointer (some ⟨g2, 0, none⟩) := by simpa using p2
  simp [results, h, hp1, hp2, asAddr, run_loadVar_row w g1 s1 ty1 c1 (0, 0) d1 k1 u1 q1 i1, run_loadVar_row w g2 s2 ty2 c2 (0, 0) d2 k2 u2 q2 i2]
section
variable {P : Program} {ops : Array Oper} {Q : Exit → Act → World → Prop} {md : Region.Mode} {S : World → Prop}
theorem run_store_rowM {o : Oper} {a : Act} {w : World} (ty : TypeId) (x y : Operand) (ho : o.op = .store ty x y) (g : Nat) (cells : Array Value) (hx : a.eval x = .pointer (some ⟨g, 0, none⟩)) (hy : a.eval y = .agg cells)
    (t : TypeId) (old : Array Value) (hg : Blk w g old t) (hi : (P.info? ty).map (·.size) = some cells.size) (hold : old.size = cells.size) (h1 : cells.all (·.oneCell') = true) :
    (execOp a.eval o).run P w = .ok .skip (w.setRow g cells) := by
  unfold execOp
  simp only [ho, hx, hy, Instr.storeAt, Instr.sureAddr, Sem.run_bind, Sem.run_pure, Result.andThen_ok, run_storeVar_row w g t ty old cells hg hi hold h1]
/-- Two rows are stored, one behind the other. -/
theorem two_store {k l dx dy vx vy bx by' : Nat} {Tx Ty : TypeId} {zx zy cx cy : Array Value} {L : Array Bool} {a : Act} {w : World} (ok ol : Oper) (hk : ops[k]? = some ok) (hl : ops[l]? = some ol) (gk : ok.guard = none) (gl : ol.guard = none) (dk : ok.dst = none) (dl : ol.dst = none)
    (pk : ok.op = .store Tx (.tmp dx) (.tmp vx)) (pl : ol.op = .store Ty (.tmp dy) (.tmp vy)) (r3 : Region.ready md ops L = [k]) (r4 : Region.ready md ops (L.setIfInBounds k true) = [l]) (r5 : Region.ready md ops ((L.setIfInBounds k true).setIfInBounds l true) = [])
    (e1 : a.eval (.tmp dx) = .pointer (some ⟨bx, 0, none⟩)) (e2 : a.eval (.tmp dy) = .pointer (some ⟨by', 0, none⟩)) (e3 : a.eval (.tmp vx) = .agg cx) (e4 : a.eval (.tmp vy) = .agg cy)
    (kx : Blk w bx zx Tx) (ky : Blk w by' zy Ty) (hne : bx ≠ by')
    (ix : (P.info? Tx).map (·.size) = some cx.size) (iy : (P.info? Ty).map (·.size) = some cy.size) (sx : zx.size = cx.size) (sy : zy.size = cy.size) (ox : cx.all (·.oneCell') = true) (oy : cy.all (·.oneCell') = true)
    (hS1 : S (w.setRow bx cx)) (hS2 : S ((w.setRow bx cx).setRow by' cy)) (h : Q .normal a ((w.setRow bx cx).setRow by' cy)) : wpAnyH P md ops Q S 2 L a w := by
  refine wpAnyH_one r3 (wpOp_skip hk gk (run_store_rowM Tx _ _ pk bx cx e1 e3 Tx zx kx ix sx ox) ⟨hS1, ?_⟩)
  rw [dk]
  refine wpAnyH_one r4 (wpOp_skip hl gl (run_store_rowM Ty _ _ pl by' cy e2 e4 Ty zy (ky.row1 (Ne.symm hne) _) iy sy oy) ⟨hS2, ?_⟩)
  rw [dl]
  exact ⟨r5, h⟩
end
theorem results_row_tmp {P : Program} {fn : Func} {t1 t2 : Nat} {ty1 : TypeId} (h : fn.results = #[.cell t1 ty1, .tmp t2]) (tmps : Array Value) (w : World) (g1 : Nat) (s1 : TypeId) (c1 : Array Value) (d1 : TypeDesc) (v : Value)
    (p1 : tmps.getD t1 undef = .pointer (some ⟨g1, 0, none⟩)) (p2 : tmps.getD t2 undef = v) (k1 : Blk w g1 c1 s1)
    (u1 : P.underlying ty1 = some d1) (q1 : (match d1 with | .struct _ | .array _ _ => true | _ => false) = true) (i1 : (P.info? ty1).map (·.size) = some c1.size) :
    (results fn tmps).run P w = .ok (.tuple #[.agg c1, v]) w := by
  have hp1 : tmps[t1]?.getD undef = .pointer (some ⟨g1, 0, none⟩) := by simpa using p1
  have hp2 : tmps[t2]?.getD undef = v := by simpa using p2
  simp [results, h, hp1, hp2, asAddr, run_loadVar_row w g1 s1 ty1 c1 (0, 0) d1 k1 u1 q1 i1]
abbrev SRet (b0 b1 : Nat) (s : ByteArray) (t : Tt) (p : Pk) (m : Hs) (W : World) : Prop := Blk W b0 (inA s t.1 t.2) 118 ∧ Blk W b1 (pkA .i64 p m) 52
/-- The results are laid. -/
theorem ret_end {B : Nat} {w X : World} {s : ByteArray} {t t0 : Tt} {p : Pk} {m : Hs} {b0 : Nat} (h : Dw B w s t0 p m X) (hr : Blk X b0 (inA s t.1 t.2) 118) (h2 : b0 ≠ w.heap.size + 2) (h3 : b0 ≠ w.heap.size + 3) :
    SRet b0 (w.heap.size + 1) s t p m X.drew ∧ SRet b0 (w.heap.size + 1) s t p m (X.drew.setRow (w.heap.size + 2) (inA s t.1 t.2)) ∧ SRet b0 (w.heap.size + 1) s t p m ((X.drew.setRow (w.heap.size + 2) (inA s t.1 t.2)).setRow (w.heap.size + 3) (pkA .i64 p m)) ∧
    Blk X.drew (w.heap.size + 2) (inA eS 0 0) 118 ∧ Blk X.drew (w.heap.size + 3) (pkA .i64 zPk nHs) 52 ∧
    Blk ((X.drew.setRow (w.heap.size + 2) (inA s t.1 t.2)).setRow (w.heap.size + 3) (pkA .i64 p m)) (w.heap.size + 2) (inA s t.1 t.2) 118 ∧ Blk ((X.drew.setRow (w.heap.size + 2) (inA s t.1 t.2)).setRow (w.heap.size + 3) (pkA .i64 p m)) (w.heap.size + 3) (pkA .i64 p m) 52 ∧
    PkD B ((X.drew.setRow (w.heap.size + 2) (inA s t.1 t.2)).setRow (w.heap.size + 3) (pkA .i64 p m)) p m ∧ Below w.heap.size w ((X.drew.setRow (w.heap.size + 2) (inA s t.1 t.2)).setRow (w.heap.size + 3) (pkA .i64 p m)) := by
  have kr : Blk X.drew b0 (inA s t.1 t.2) 118 := hr
  have kp : Blk X.drew (w.heap.size + 1) (pkA .i64 p m) 52 := h.k
  have kq : Blk X.drew (w.heap.size + 2) (inA eS 0 0) 118 := h.q
  have kz : Blk X.drew (w.heap.size + 3) (pkA .i64 zPk nHs) 52 := h.z
  have kd : PkD B X.drew p m := h.d.below (Below.refl _ _).drew
  have kb : Below w.heap.size w X.drew := h.bl.drew
  have kd1 := kd.row kq (.inl rfl) (inA s t.1 t.2)
  have kz1 := kz.row1 (g' := w.heap.size + 2) (by omega) (inA s t.1 t.2)
  refine ⟨⟨kr, kp⟩, ⟨kr.row1 h2 _, kp.row1 (by omega) _⟩, ⟨(kr.row1 h2 _).row1 h3 _, (kp.row1 (by omega) _).row1 (by omega) _⟩, kq, kz, (kq.row0 _).row1 (by omega) _, kz1.row0 _, kd1.row kz1 (.inr rfl) _, below_setRow (below_setRow kb (by omega) _) (by omega) _⟩
theorem dnum' (s : ByteArray) (k : Int) (t : Tt) (X : World) (hs : s.size ≤ 140737488351232) (hr : Rg s t) :
    Calls Tryd.prog 61 #[.agg (inA s t.1 t.2), .int .i64 k] X fun e w' => e = .returned (.tuple #[.agg (inA s (dNum s k t).1.1 (dNum s k t).1.2), .int .i64 (dNum s k t).2]) ∧ Below X.heap.size X w' :=
  dnum_any s t.1 t.2 k X hs (by have := hr.1; omega) (by have := hr.2; omega)
theorem dtext' (s : ByteArray) (t : Tt) (X : World) (hs : s.size ≤ 140737488351232) (hr : Rg s t) :
    Calls Tryd.prog 64 #[.agg (inA s t.1 t.2)] X fun e w' => e = .returned (.tuple #[.agg (inA s (dText s t).1.1 (dText s t).1.2), .string (dText s t).2]) ∧ Below X.heap.size X w' :=
  dtext_any s t.1 t.2 X hs (by have := hr.1; omega) (by have := hr.2; omega)
theorem ddata' (s : ByteArray) (t : Tt) (X : World) (hs : s.size ≤ 140737488351232) (hr : Rg s t) :
    Calls Tryd.prog 84 #[.agg (inA s t.1 t.2)] X fun e w' => e = .returned (.tuple #[.agg (inA s (dData s t).1.1 (dData s t).1.2), .string (dData s t).2]) ∧ Below X.heap.size X w' :=
  ddata_any s t.1 t.2 X hs (by have := hr.1; omega) (by have := hr.2; omega)
theorem dfail' (s : ByteArray) (t : Tt) (d : Int) (X : World) :
    Calls Tryd.prog 62 #[.agg (inA s t.1 t.2), .int .i64 d] X fun e w' => e = .returned (.agg (inA s (dFail t d).1 (dFail t d).2)) ∧ Below X.heap.size X w' := by
  have h := rfailed_any s t.1 t.2 d X
  have e1 : (dFail t d).1 = t.1 := by unfold dFail; split <;> rfl
  have e2 : (dFail t d).2 = mix t.2 d := by unfold dFail mix; split <;> rfl
  rw [e1, e2]
  exact h
end Go.Proofs.YtedapgeabpadaaaDoor

namespace Go.Proofs.YtedapgeabpadaaaDoor
set_option linter.unusedVariables false
open Go.RowKit Pl Go.Shelf Go.PlainAid

def srD (most : Int) (left : ByteArray) (c : Int) : Array Value := #[.int .i64 most, .string left, .int .i64 c]
def dksF (L : List Pk) (ms : List Hs) : List Value := (L.zip ms).flatMap fun x => (pkA .i64 x.1 x.2).toList
/-- Packets in a slice of own memory. -/
def DksAt (B : Nat) (w : World) (v : Value) (L : List Pk) : Prop := ∃ ms : List Hs, ms.length = L.length ∧ Sl B w 52 26 v L.length (dksF L ms) ∧ ∀ (i : Nat) p m, L[i]? = some p → ms[i]? = some m → PkD B w p m
theorem DksAt.nil (B : Nat) (w : World) : DksAt B w (.slice none 0 0) [] := ⟨[], rfl, Sl.nil _ _ _ _, fun i p m h => by simp at h⟩
theorem DksAt.below {B : Nat} {w w' : World} {v : Value} {L : List Pk} (h : DksAt B w v L) (b : Below w.heap.size w w') : DksAt B w' v L := by
  obtain ⟨ms, h1, h2, h3⟩ := h
  exact ⟨ms, h1, h2.below b, fun i p m x y => (h3 i p m x y).below b⟩
theorem DksAt.mono {B B' : Nat} {w : World} {v : Value} {L : List Pk} (h : DksAt B w v L) (hB : B' ≤ B) : DksAt B' w v L := by
  obtain ⟨ms, h1, h2, h3⟩ := h
  exact ⟨ms, h1, h2.mono' hB, fun i p m x y => (h3 i p m x y).mono hB⟩
theorem DksAt.setR {B R : Nat} {w : World} {v : Value} {L : List Pk} (h : DksAt B w v L) (hR : R < B) (i : Nat) (u : Value) : DksAt B (w.setCell ⟨R, i, none⟩ u) v L := by
  obtain ⟨ms, h1, h2, h3⟩ := h
  exact ⟨ms, h1, h2.setR hR i u, fun j p m x y => (h3 j p m x y).same fun _ _ _ _ _ s _ => s.setR hR i u⟩
theorem dksF_snoc {L : List Pk} {ms : List Hs} (h : ms.length = L.length) (p : Pk) (m : Hs) : dksF (L ++ [p]) (ms ++ [m]) = dksF L ms ++ (pkA .i64 p m).toList := by
  unfold dksF
  rw [List.zip_append h.symm, List.flatMap_append]
  simp
theorem dks_cells : ∀ {L : List Pk} {ms : List Hs} {i : Nat} {p : Pk} {m : Hs}, L[i]? = some p → ms[i]? = some m → ∀ j u, (pkA .i64 p m)[j]? = some u → (dksF L ms)[i * 26 + j]? = some u := by
  intro L
  induction L with
  | nil => intro ms i p m h; simp at h
  | cons q r ih =>
    intro ms i p m h1 h2 j u hu
    cases ms with
    | nil => simp at h2
    | cons n ms =>
      have hl : (pkA .i64 q n).toList.length = 26 := rfl
      have hj : j < 26 := (Array.getElem?_eq_some_iff.1 hu).1
      show ((pkA .i64 q n).toList ++ dksF r ms)[i * 26 + j]? = some u
      cases i with
      | zero =>
        obtain rfl : q = p := by simpa using h1
        obtain rfl : n = m := by simpa using h2
        rw [Nat.zero_mul, Nat.zero_add, List.getElem?_append_left (by omega)]
        simpa using hu
      | succ i =>
        rw [List.getElem?_append_right (by omega), hl, show (i + 1) * 26 + j - 26 = i * 26 + j from by omega]
        exact ih (by simpa using h1) (by simpa using h2) j u hu
theorem info_dpk : (Tryd.prog.info? 52).map (fun i => (i.zero, i.size, i.bytes)) = some (some (.agg (pkA .i64 zPk nHs)), 26, 328) := by kernel_rfl
/-- '[]Packet{p}', for the walk. -/
theorem wpList_dpkS {ops : Array Oper} {rest : List Oper} {o : Oper} {a : Act} {w : World} {Q : Exit → Act → World → Prop} (x : Operand) (cs : Array Value) (hc : cs.size = 26)
    (hgd : o.guard = none) (ho : o.op = .buildSlice 33 1 #[(0, x)]) (hx : a.eval x = .agg cs) (Z : World) (hZ : w.alloc (.cells cs 52) = Z)
    (h : wpList Tryd.prog ops Q rest (a.put o.dst (.slice (some ⟨w.heap.size, 0, none⟩) 1 1)) Z) : wpList Tryd.prog ops Q (o :: rest) a w := by
  obtain ⟨ip, hip, hipz, hips, hipb⟩ := info_parts info_dpk
  refine wpList_buildSlice hgd 33 52 1 _ ho cs ip _ Tryd.underlying33 hip hipz (by rw [hips]; decide) (by rw [hips]; decide) ?_ (by rw [hZ]; exact h)
  rw [hips]
  simp only [List.map_toArray, List.map_cons, List.map_nil, hx]
  exact spk_fill cs _ hc cs.toList (by simp) (by simpa using hc)
/-- 'out = append(out, p)', for the walk. -/
theorem wpList_dpks {ops : Array Oper} {rest : List Oper} {o : Oper} {a : Act} {w : World} {Q : Exit → Act → World → Prop} (s x : Operand) (B : Nat) (v : Value) (L : List Pk) (p : Pk) (m : Hs) (b : Nat)
    (hgd : o.guard = none) (ho : o.op = .call { callee := .builtin .append, args := #[s, x], argTypes := #[33, 33] })
    (hs : a.eval s = v) (hx : a.eval x = .slice (some ⟨b, 0, none⟩) 1 1) (h : DksAt B w v L) (hp : PkD B w p m) (hb : Blk w b (pkA .i64 p m) 52) (hB : B ≤ w.heap.size) (hl : L.length ≤ 1048576)
    (hK : ∀ v' w', DksAt B w' v' (L ++ [p]) → w.grownBy w' v.ownBlock → (∀ k, v.ownBlock = some k → B ≤ k ∧ ∀ o, w.heap[k]? = some o → ∃ cur, o = .cells cur 52 (0, 0)) → wpList Tryd.prog ops Q rest (a.put o.dst v') w') :
    wpList Tryd.prog ops Q (o :: rest) a w := by
  obtain ⟨ms, h1, h2, h3⟩ := h
  obtain ⟨i1, hi1, hi1z, hi1s, hi1b⟩ := info_parts info_dpk
  refine wpList_append_sl s x 33 i1 _ _ b (pkA .i64 p m) hgd ho Tryd.underlying33 hi1 hi1z hi1s hi1b rfl (by decide) rfl (fun u hu => (Array.all_eq_true'.1 (dpk_one p m)) u (Array.mem_toList_iff.1 hu)) hs hx h2 hb hB (by unfold maxLen; omega) (by omega) ?_
  intro v' w' r1 r2 r3
  have keep : ∀ (e : TypeId) (size : Nat) u n xs, Sl B w e size u n xs → e ≠ 52 → Sl B w' e size u n xs := fun e size u n xs s he => s.grown r2 fun k hk => s.ne2 h2 he k hk
  have kp : ∀ {q : Pk} {n : Hs}, PkD B w q n → PkD B w' q n := fun hq => hq.same fun e size u n xs s he => keep e size u n xs s (by rcases he with rfl | rfl | rfl | rfl <;> decide)
  refine hK v' w' ⟨ms ++ [m], by simp [h1], by rw [dksF_snoc h1, List.length_append]; exact r1, fun i q n a b => ?_⟩ r2 (fun k hk => ⟨(h2.lt k hk).1, fun o ho => h2.obj k o hk ho⟩)
  rcases Nat.lt_or_ge i L.length with c | c
  · rw [List.getElem?_append_left c] at a
    rw [List.getElem?_append_left (by omega)] at b
    exact kp (h3 i q n a b)
  · have e : i = L.length := by
      have := (List.getElem?_eq_some_iff.1 a).1
      simp at this
      omega
    subst e
    rw [List.getElem?_append_right (Nat.le_refl _), Nat.sub_self] at a
    rw [List.getElem?_append_right (by omega), h1, Nat.sub_self] at b
    simp at a b
    subst a b
    exact kp hp
theorem DksAt.at {B : Nat} {w : World} {A : Option Addr} {n cap : Nat} {L : List Pk} (h : DksAt B w (.slice A n cap) L) {j : Nat} {p : Pk} (hj : L[j]? = some p) : ∃ g o m, A = some ⟨g, o, none⟩ ∧ w.rangeAt g (o + j * 26) (pkA .i64 p m).toList ∧ PkD B w p m := by
  obtain ⟨ms, h1, h2, h3⟩ := h
  have hl := (List.getElem?_eq_some_iff.1 hj).1
  obtain ⟨g, o, cap', e, _, _, _, _, hcl⟩ := h2.at (by omega)
  injection e with e1 _ _
  obtain ⟨m, hm⟩ : ∃ m, ms[j]? = some m := ⟨_, List.getElem?_eq_getElem (by omega)⟩
  refine ⟨g, o, m, e1, fun i v hv => ?_, h3 j p m hj hm⟩
  rw [Nat.add_assoc]
  exact hcl _ _ (dks_cells hj hm i v (by simpa using hv))
theorem DksAt.form {B : Nat} {w : World} {v : Value} {L : List Pk} (h : DksAt B w v L) : ∃ A cap, v = .slice A L.length cap ∧ L.length ≤ cap ∧ cap ≤ maxLen := by
  obtain ⟨ms, h1, h2, h3⟩ := h
  obtain ⟨ao, cap, e, h4, h5, _⟩ := h2.form
  exact ⟨ao, cap, e, h4, h5⟩
end Go.Proofs.YtedapgeabpadaaaDoor

namespace Go.Proofs.YtedapgeabpadaaaDoor
set_option linter.unusedVariables false
set_option linter.unusedSectionVars false
open Go.RowKit
section
variable {P : Program} {ops : Array Oper} {Q : Exit → Act → World → Prop} {md : Region.Mode} {S : World → Prop}
theorem ws_two {k i j : Nat} {L : Array Bool} {a : Act} {w : World} (hr : Region.ready md ops L = [i, j]) (h1 : wpOp P ops Q i (fun a' w' => S w' ∧ wpAnyH P md ops Q S k (L.setIfInBounds i true) a' w') a w)
    (h2 : wpOp P ops Q j (fun a' w' => S w' ∧ wpAnyH P md ops Q S k (L.setIfInBounds j true) a' w') a w) : wpAnyH P md ops Q S (k + 1) L a w := by
  refine ⟨fun c => (by rw [hr] at c; cases c), fun l hl => ?_⟩
  rw [hr] at hl
  rcases List.mem_cons.1 hl with rfl | hl
  · exact h1
  · obtain rfl := List.mem_singleton.1 hl
    exact h2
theorem Yld.if {i d : Nat} {v : Value} {A : Act → Prop} {S : World → Prop} {C : World → Prop} (h : Yld P ops i d v A C) {a : Act} (hA : A a) (hS : ∀ w, S w → C w) : ∃ o, ops[i]? = some o ∧ o.dst = some d ∧ YieldsIf P ops S o v a := by
  obtain ⟨o, h1, h2, h3, h4⟩ := h
  exact ⟨o, h1, h3, .inl ⟨by simp [Region.wanted, h2], fun w hw => h4 a w hA (hS w hw)⟩⟩
def followOk (md : Region.Mode) (ops : Array Oper) (L : Array Bool) (m e1 e2 : Nat) : Bool :=
  (Region.ready md ops L).contains m && Region.free md ops L m && (Region.ready md ops (L.setIfInBounds m true)).contains e1 && Region.free md ops (L.setIfInBounds m true) e1 &&
  (Region.ready md ops ((L.setIfInBounds m true).setIfInBounds e1 true)).contains e2 && Region.free md ops ((L.setIfInBounds m true).setIfInBounds e1 true) e2
/-- The parts of what a call left. -/
theorem ct_follow {n m e1 e2 dc dm d1 d2 : Nat} {L : Array Bool} {a : Act} {w : World} {u x y : Value} (hs : Region.noSelect ops = true) (hf : followOk md ops L m e1 e2 = true)
    (hQ : ∀ c a d v w, Q (.panic c) (a.put (some d) v) w → Q (.panic c) a w)
    (hm : Yld P ops m dm u (fun a => a.eval (.tmp dc) = u) (fun _ => True)) (h1 : Yld P ops e1 d1 x (fun a => a.eval (.tmp dm) = u) (fun _ => True)) (h2 : Yld P ops e2 d2 y (fun a => a.eval (.tmp dm) = u) (fun _ => True))
    (ha : a.eval (.tmp dc) = u) (sm : dm < a.tmps.size) (n1 : d1 ≠ dm) (hSw : S w)
    (h : wpAnyH P md ops Q S n (((L.setIfInBounds m true).setIfInBounds e1 true).setIfInBounds e2 true) (((a.put (some dm) u).put (some d1) x).put (some d2) y) w) : wpAnyH P md ops Q S (n + 1 + 1 + 1) L a w := by
  unfold followOk at hf
  simp only [Bool.and_eq_true] at hf
  obtain ⟨⟨⟨⟨⟨f1, f2⟩, f3⟩, f4⟩, f5⟩, f6⟩ := hf
  have b1 : (a.put (some dm) u).eval (.tmp dm) = u := put_same sm _
  have b2 : ((a.put (some dm) u).put (some d1) x).eval (.tmp dm) = u := (put_other (fun c => n1 (by injection c)) _).trans b1
  obtain ⟨om, om1, om2, om3⟩ := hm.if (S := S) ha (fun _ _ => trivial)
  obtain ⟨o1, o11, o12, o13⟩ := h1.if (S := S) b1 (fun _ _ => trivial)
  obtain ⟨o2, o21, o22, o23⟩ := h2.if (S := S) b2 (fun _ _ => trivial)
  exact wpAnyH_takeD om1 om2 hs f2 f1 (fun c a w => hQ c a _ _ w) om3 hSw (wpAnyH_takeD o11 o12 hs f4 f3 (fun c a w => hQ c a _ _ w) o13 hSw (wpAnyH_takeD o21 o22 hs f6 f5 (fun c a w => hQ c a _ _ w) o23 hSw h))
def tailOk (md : Region.Mode) (ops : Array Oper) (L : Array Bool) (k l : Nat) : Bool :=
  (Region.ready md ops L == [k]) && (Region.ready md ops (L.setIfInBounds k true) == [l]) && (Region.ready md ops ((L.setIfInBounds k true).setIfInBounds l true) == [])
theorem ct_tail {k l dx dy vx vy : Nat} {Tx Ty : TypeId} {zx zy cx cy : Array Value} {L : Array Bool} {a : Act} {w0 w : World} {RY : World → Prop} (bx by' : Nat) (ok ol : Oper) (hk : ops[k]? = some ok) (hl : ops[l]? = some ol) (gk : ok.guard = none) (gl : ol.guard = none) (dk : ok.dst = none) (dl : ol.dst = none)
    (pk : ok.op = .store Tx (.tmp dx) (.tmp vx)) (pl : ol.op = .store Ty (.tmp dy) (.tmp vy)) (hr : tailOk md ops L k l = true)
    (e1 : a.eval (.tmp dx) = .pointer (some ⟨bx, 0, none⟩)) (e2 : a.eval (.tmp dy) = .pointer (some ⟨by', 0, none⟩)) (e3 : a.eval (.tmp vx) = .agg cx) (e4 : a.eval (.tmp vy) = .agg cy)
    (kx : Blk w bx zx Tx) (ky : Blk w by' zy Ty) (hne : bx ≠ by') (lx : w0.heap.size ≤ bx) (ly : w0.heap.size ≤ by') (hb : Below w0.heap.size w0 w)
    (ix : (P.info? Tx).map (·.size) = some cx.size) (iy : (P.info? Ty).map (·.size) = some cy.size) (sx : zx.size = cx.size) (sy : zy.size = cy.size) (ox : cx.all (·.oneCell') = true) (oy : cy.all (·.oneCell') = true)
    (hY : RY w) (hRx : ∀ Y g z c, Blk Y g z Tx → RY Y → RY (Y.setRow g c)) (hRy : ∀ Y g z c, Blk Y g z Ty → RY Y → RY (Y.setRow g c))
    (h : ∀ W, Blk W bx cx Tx → Blk W by' cy Ty → RY W → Below w0.heap.size w0 W → Q .normal a W) (hS : ∀ W, Below w0.heap.size w0 W → S W) : wpAnyH P md ops Q S 2 L a w := by
  unfold tailOk at hr
  simp only [Bool.and_eq_true, beq_iff_eq] at hr
  obtain ⟨⟨r3, r4⟩, r5⟩ := hr
  have b1 := below_setRow hb lx cx
  have b2 := below_setRow b1 ly cy
  refine wpAnyH_one r3 (wpOp_skip hk gk (run_store_rowM Tx _ _ pk bx cx e1 e3 Tx zx kx ix sx ox) ⟨hS _ b1, ?_⟩)
  rw [dk]
  have ky1 : Blk (w.setRow bx cx) by' zy Ty := ky.row1 (Ne.symm hne) _
  refine wpAnyH_one r4 (wpOp_skip hl gl (run_store_rowM Ty _ _ pl by' cy e2 e4 Ty zy ky1 iy sy oy) ⟨hS _ b2, ?_⟩)
  rw [dl]
  exact ⟨r5, h _ ((kx.row0 _).row1 hne _) (ky1.row0 _) (hRy _ _ _ _ ky1 (hRx _ _ _ _ kx hY)) b2⟩
def callTwoRd (md : Region.Mode) (ops : Array Oper) (L : Array Bool) (c m e1 e2 i j k l : Nat) : Bool :=
  (Region.ready md ops L == [c, i, j]) &&
  (Region.ready md ops ((((L.setIfInBounds c true).setIfInBounds m true).setIfInBounds e1 true).setIfInBounds e2 true) == [i, j]) &&
  (Region.ready md ops (((((L.setIfInBounds c true).setIfInBounds m true).setIfInBounds e1 true).setIfInBounds e2 true).setIfInBounds i true) == [j]) &&
  (Region.ready md ops (((((L.setIfInBounds c true).setIfInBounds m true).setIfInBounds e1 true).setIfInBounds e2 true).setIfInBounds j true) == [i]) &&
  (Region.ready md ops (L.setIfInBounds i true) == [c, j]) &&
  (Region.ready md ops (((((L.setIfInBounds i true).setIfInBounds c true).setIfInBounds m true).setIfInBounds e1 true).setIfInBounds e2 true) == [j]) &&
  (Region.ready md ops ((L.setIfInBounds i true).setIfInBounds j true) == [c]) &&
  (Region.ready md ops (L.setIfInBounds j true) == [c, i]) &&
  (Region.ready md ops (((((L.setIfInBounds j true).setIfInBounds c true).setIfInBounds m true).setIfInBounds e1 true).setIfInBounds e2 true) == [i]) &&
  (Region.ready md ops ((L.setIfInBounds j true).setIfInBounds i true) == [c]) &&
  followOk md ops (L.setIfInBounds c true) m e1 e2 &&
  followOk md ops ((L.setIfInBounds i true).setIfInBounds c true) m e1 e2 &&
  followOk md ops (((L.setIfInBounds i true).setIfInBounds j true).setIfInBounds c true) m e1 e2 &&
  followOk md ops ((L.setIfInBounds j true).setIfInBounds c true) m e1 e2 &&
  followOk md ops (((L.setIfInBounds j true).setIfInBounds i true).setIfInBounds c true) m e1 e2 &&
  tailOk md ops ((((((L.setIfInBounds c true).setIfInBounds m true).setIfInBounds e1 true).setIfInBounds e2 true).setIfInBounds i true).setIfInBounds j true) k l &&
  tailOk md ops ((((((L.setIfInBounds c true).setIfInBounds m true).setIfInBounds e1 true).setIfInBounds e2 true).setIfInBounds j true).setIfInBounds i true) k l &&
  tailOk md ops ((((((L.setIfInBounds i true).setIfInBounds c true).setIfInBounds m true).setIfInBounds e1 true).setIfInBounds e2 true).setIfInBounds j true) k l &&
  tailOk md ops ((((((L.setIfInBounds i true).setIfInBounds j true).setIfInBounds c true).setIfInBounds m true).setIfInBounds e1 true).setIfInBounds e2 true) k l &&
  tailOk md ops ((((((L.setIfInBounds j true).setIfInBounds c true).setIfInBounds m true).setIfInBounds e1 true).setIfInBounds e2 true).setIfInBounds i true) k l &&
  tailOk md ops ((((((L.setIfInBounds j true).setIfInBounds i true).setIfInBounds c true).setIfInBounds m true).setIfInBounds e1 true).setIfInBounds e2 true) k l
theorem ct_move {a : Act} {dx dc dm d1 d2 : Nat} {p u v x y : Value} (n1 : dx ≠ dc) (n2 : dx ≠ dm) (n3 : dx ≠ d1) (n4 : dx ≠ d2) :
    ((((a.put (some dx) p).put (some dc) u).put (some dm) v).put (some d1) x).put (some d2) y = ((((a.put (some dc) u).put (some dm) v).put (some d1) x).put (some d2) y).put (some dx) p := by
  rw [put_comm' n1, put_comm' n2, put_comm' n3, put_comm' n4]
theorem put_sz (a : Act) (d : Option Nat) (v : Value) : (a.put d v).tmps.size = a.tmps.size := by cases d <;> simp [Act.put]
theorem wpAnyH_call_two {ι : Type} {c m e1 e2 i j k l dc dm d1 d2 dx dy : Nat} {Tx Ty : TypeId} {zx zy : Array Value} {cx cy : ι → Array Value} {u : ι → Value} {L : Array Bool} {a : Act} {w : World} {RY : ι → World → Prop} (oi oj ok ol : Oper)
    (hs : Region.noSelect ops = true) (hrd : callTwoRd md ops L c m e1 e2 i j k l = true) (hQ : ∀ c a d v w, Q (.panic c) (a.put (some d) v) w → Q (.panic c) a w)
    (hi : ops[i]? = some oi) (hj : ops[j]? = some oj) (hk : ops[k]? = some ok) (hl : ops[l]? = some ol) (gi : oi.guard = none) (gj : oj.guard = none) (gk : ok.guard = none) (gl : ol.guard = none) (di : oi.dst = some dx) (dj : oj.dst = some dy) (dk : ok.dst = none) (dl : ol.dst = none)
    (pk : ok.op = .store Tx (.tmp dx) (.tmp d1)) (pl : ol.op = .store Ty (.tmp dy) (.tmp d2))
    (ax : ∀ ρ W, (execOp ρ oi).run P W = .ok (.value (.pointer (some ⟨W.heap.size, 0, none⟩))) (W.alloc (.cells zx Tx))) (ay : ∀ ρ W, (execOp ρ oj).run P W = .ok (.value (.pointer (some ⟨W.heap.size, 0, none⟩))) (W.alloc (.cells zy Ty)))
    (hm : ∀ t, Yld P ops m dm (u t) (fun a => a.eval (.tmp dc) = u t) (fun _ => True)) (h1 : ∀ t, Yld P ops e1 d1 (.agg (cx t)) (fun a => a.eval (.tmp dm) = u t) (fun _ => True)) (h2 : ∀ t, Yld P ops e2 d2 (.agg (cy t)) (fun a => a.eval (.tmp dm) = u t) (fun _ => True))
    (sc : dc < a.tmps.size) (sm : dm < a.tmps.size) (s1 : d1 < a.tmps.size) (s2 : d2 < a.tmps.size) (sdx : dx < a.tmps.size) (sdy : dy < a.tmps.size)
    (n1m : d1 ≠ dm) (n12 : d1 ≠ d2) (xc : dx ≠ dc) (xm : dx ≠ dm) (x1 : dx ≠ d1) (x2 : dx ≠ d2) (yc : dy ≠ dc) (ym : dy ≠ dm) (y1 : dy ≠ d1) (y2 : dy ≠ d2) (xy : dx ≠ dy)
    (ix : ∀ t, (P.info? Tx).map (·.size) = some (cx t).size) (iy : ∀ t, (P.info? Ty).map (·.size) = some (cy t).size) (sx : ∀ t, zx.size = (cx t).size) (sy : ∀ t, zy.size = (cy t).size) (ox : ∀ t, (cx t).all (·.oneCell') = true) (oy : ∀ t, (cy t).all (·.oneCell') = true)
    (hc0 : ∀ X K, Below w.heap.size w X → (∀ t Y, Below X.heap.size X Y → RY t Y → K (a.put (some dc) (u t)) Y) → wpOp P ops Q c K a X)
    (hc1 : ∀ p X K, Below w.heap.size w X → (∀ t Y, Below X.heap.size X Y → RY t Y → K ((a.put (some dx) p).put (some dc) (u t)) Y) → wpOp P ops Q c K (a.put (some dx) p) X)
    (hc2 : ∀ q X K, Below w.heap.size w X → (∀ t Y, Below X.heap.size X Y → RY t Y → K ((a.put (some dy) q).put (some dc) (u t)) Y) → wpOp P ops Q c K (a.put (some dy) q) X)
    (hc3 : ∀ p q X K, Below w.heap.size w X → (∀ t Y, Below X.heap.size X Y → RY t Y → K (((a.put (some dx) p).put (some dy) q).put (some dc) (u t)) Y) → wpOp P ops Q c K ((a.put (some dx) p).put (some dy) q) X)
    (hRB : ∀ t Y Z, RY t Y → Below Y.heap.size Y Z → RY t Z) (hRx : ∀ t Y g z c, Blk Y g z Tx → RY t Y → RY t (Y.setRow g c)) (hRy : ∀ t Y g z c, Blk Y g z Ty → RY t Y → RY t (Y.setRow g c))
    (hS : ∀ W, Below w.heap.size w W → S W)
    (h : ∀ t bx by' W, Blk W bx (cx t) Tx → Blk W by' (cy t) Ty → bx ≠ by' → w.heap.size ≤ bx → w.heap.size ≤ by' → RY t W → Below w.heap.size w W → Q .normal ((((((a.put (some dc) (u t)).put (some dm) (u t)).put (some d1) (.agg (cx t))).put (some d2) (.agg (cy t))).put (some dx) (.pointer (some ⟨bx, 0, none⟩))).put (some dy) (.pointer (some ⟨by', 0, none⟩))) W) :
    wpAnyH P md ops Q S 8 L a w := by
  unfold callTwoRd at hrd
  simp only [Bool.and_eq_true, beq_iff_eq] at hrd
  obtain ⟨⟨⟨⟨⟨⟨⟨⟨⟨⟨⟨⟨⟨⟨⟨⟨⟨⟨⟨⟨r0, r1⟩, r2⟩, r3⟩, r4⟩, r5⟩, r6⟩, r7⟩, r8⟩, r9⟩, r10⟩, r11⟩, r12⟩, r13⟩, r14⟩, r15⟩, r16⟩, r17⟩, r18⟩, r19⟩, r20⟩ := hrd
  have ne : ∀ {p q : Nat}, p ≠ q → (some p : Option Nat) ≠ some q := fun h c => h (by injection c)
  have nes : ∀ {p q : Nat}, p ≠ q → (some q : Option Nat) ≠ some p := fun h c => h (by injection c with c; exact c.symm)
  -- the values at the end
  have ev1 : ∀ t p q, ((((((a.put (some dc) (u t)).put (some dm) (u t)).put (some d1) (.agg (cx t))).put (some d2) (.agg (cy t))).put (some dx) p).put (some dy) q).eval (.tmp dx) = p := fun t p q => (put_other (nes xy) _).trans (put_same (by simp only [put_sz]; exact sdx) _)
  have ev2 : ∀ t p q, ((((((a.put (some dc) (u t)).put (some dm) (u t)).put (some d1) (.agg (cx t))).put (some d2) (.agg (cy t))).put (some dx) p).put (some dy) q).eval (.tmp dy) = q := fun t p q => put_same (by simp only [put_sz]; exact sdy) _
  have ev3 : ∀ t p q, ((((((a.put (some dc) (u t)).put (some dm) (u t)).put (some d1) (.agg (cx t))).put (some d2) (.agg (cy t))).put (some dx) p).put (some dy) q).eval (.tmp d1) = .agg (cx t) := fun t p q => (put_other (ne y1) _).trans ((put_other (ne x1) _).trans ((put_other (nes n12) _).trans (put_same (by simp only [put_sz]; exact s1) _)))
  have ev4 : ∀ t p q, ((((((a.put (some dc) (u t)).put (some dm) (u t)).put (some d1) (.agg (cx t))).put (some d2) (.agg (cy t))).put (some dx) p).put (some dy) q).eval (.tmp d2) = .agg (cy t) := fun t p q => (put_other (ne y2) _).trans ((put_other (ne x2) _).trans (put_same (by simp only [put_sz]; exact s2) _))
  have fin : ∀ {Lf : Array Bool} t bx by' W, tailOk md ops Lf k l = true → Blk W bx zx Tx → Blk W by' zy Ty → bx ≠ by' → w.heap.size ≤ bx → w.heap.size ≤ by' → RY t W → Below w.heap.size w W → wpAnyH P md ops Q S 2 Lf ((((((a.put (some dc) (u t)).put (some dm) (u t)).put (some d1) (.agg (cx t))).put (some d2) (.agg (cy t))).put (some dx) (.pointer (some ⟨bx, 0, none⟩))).put (some dy) (.pointer (some ⟨by', 0, none⟩))) W := fun t bx by' W hr kx ky hne lx ly hY hb =>
    ct_tail (w0 := w) (RY := RY t) bx by' ok ol hk hl gk gl dk dl pk pl hr (ev1 t _ _) (ev2 t _ _) (ev3 t _ _) (ev4 t _ _) kx ky hne lx ly hb (ix t) (iy t) (sx t) (sy t) (ox t) (oy t) hY (hRx t) (hRy t) (fun W2 a1 a2 a3 a4 => h t bx by' W2 a1 a2 hne lx ly a3 a4) hS
  have at_ : ∀ (b : Act) t, b.tmps.size = a.tmps.size → (b.put (some dc) (u t)).eval (.tmp dc) = u t := fun b t hb => put_same (by rw [hb]; exact sc) _
  have fol : ∀ {n : Nat} {Lx : Array Bool} {b : Act} {X : World} t, followOk md ops Lx m e1 e2 = true → b.tmps.size = a.tmps.size → S X → wpAnyH P md ops Q S n (((Lx.setIfInBounds m true).setIfInBounds e1 true).setIfInBounds e2 true) ((((b.put (some dc) (u t)).put (some dm) (u t)).put (some d1) (.agg (cx t))).put (some d2) (.agg (cy t))) X → wpAnyH P md ops Q S (n + 1 + 1 + 1) Lx (b.put (some dc) (u t)) X :=
    fun t hf hb hSX hh => ct_follow hs hf hQ (hm t) (h1 t) (h2 t) (at_ _ t hb) (by rw [put_sz, hb]; exact sm) n1m hSX hh
  have movx := fun (b : Act) (p : Value) (t : ι) => ct_move (a := b) (p := p) (u := u t) (v := u t) (x := .agg (cx t)) (y := .agg (cy t)) xc xm x1 x2
  have movy := fun (b : Act) (p : Value) (t : ι) => ct_move (a := b) (p := p) (u := u t) (v := u t) (x := .agg (cx t)) (y := .agg (cy t)) yc ym y1 y2
  have al : ∀ (X : World) (z : Array Value) (T : TypeId), Below X.heap.size X (X.alloc (.cells z T)) := fun X z T => (Below.refl _ _).alloc (Nat.le_refl _) _
  have szl : ∀ (X : World) (z : Array Value) (T : TypeId), (X.alloc (.cells z T)).heap.size = X.heap.size + 1 := fun X z T => by simp
  change wpAnyH _ _ _ _ _ (7 + 1) _ _ _
  refine ⟨fun e => (by rw [r0] at e; cases e), fun x hx => ?_⟩
  rw [r0] at hx
  rcases List.mem_cons.1 hx with rfl | hx
  · refine hc0 w _ (Below.refl _ _) fun t Y bY hY => ⟨hS _ bY, ?_⟩
    refine fol (n := 4) t r10 rfl (hS _ bY) ?_
    have bi := al Y zx Tx
    have bj := al Y zy Ty
    refine ws_two r1 (wpOp_val hi gi (ax _ _) ⟨hS _ (bY.trans (bi.mono bY.size)), ?_⟩) (wpOp_val hj gj (ay _ _) ⟨hS _ (bY.trans (bj.mono bY.size)), ?_⟩)
    · rw [di]
      have b2 := bi.trans ((al _ zy Ty).mono bi.size)
      refine wpAnyH_one r2 (wpOp_val hj gj (ay _ _) ⟨hS _ (bY.trans (b2.mono bY.size)), ?_⟩)
      rw [dj]
      exact fin t _ _ _ r15 ((blkAt Y zx Tx rfl).alloc _) (blkAt _ zy Ty rfl) (by rw [szl]; omega) bY.size (by rw [szl]; have := bY.size; omega) (hRB t _ _ hY b2) (bY.trans (b2.mono bY.size))
    · rw [dj]
      have b2 := bj.trans ((al _ zx Tx).mono bj.size)
      refine wpAnyH_one r3 (wpOp_val hi gi (ax _ _) ⟨hS _ (bY.trans (b2.mono bY.size)), ?_⟩)
      rw [di, put_comm' (Ne.symm xy)]
      exact fin t _ _ _ r16 (blkAt _ zx Tx rfl) ((blkAt Y zy Ty rfl).alloc _) (by rw [szl]; omega) (by rw [szl]; have := bY.size; omega) bY.size (hRB t _ _ hY b2) (bY.trans (b2.mono bY.size))
  rcases List.mem_cons.1 hx with rfl | hx
  · have bi := al w zx Tx
    refine wpOp_val hi gi (ax _ _) ⟨hS _ bi, ?_⟩
    rw [di]
    have ki := blkAt w zx Tx rfl
    have b2 := bi.trans ((al _ zy Ty).mono bi.size)
    refine ws_two r4 ?_ (wpOp_val hj gj (ay _ _) ⟨hS _ b2, ?_⟩)
    · refine hc1 _ _ _ bi fun t Y bY hY => ⟨hS _ (bi.trans (bY.mono bi.size)), ?_⟩
      refine fol (n := 3) t r11 (put_sz _ _ _) (hS _ (bi.trans (bY.mono bi.size))) ?_
      rw [movx]
      have bj := al Y zy Ty
      have kY := ki.of_below bY
      have bwY := bi.trans (bY.mono bi.size)
      refine wpAnyH_one r5 (wpOp_val hj gj (ay _ _) ⟨hS _ (bwY.trans (bj.mono bwY.size)), ?_⟩)
      rw [dj]
      exact fin t _ _ _ r17 (kY.alloc _) (blkAt _ zy Ty rfl) (Nat.ne_of_lt kY.lt) (Nat.le_refl _) bwY.size (hRB t _ _ hY bj) (bwY.trans (bj.mono bwY.size))
    · rw [dj]
      refine wpAnyH_one r6 (hc3 _ _ _ _ b2 fun t Y bY hY => ⟨hS _ (b2.trans (bY.mono b2.size)), ?_⟩)
      refine fol (n := 2) t r12 (by rw [put_sz, put_sz]) (hS _ (b2.trans (bY.mono b2.size))) ?_
      rw [movy, movx]
      exact fin t _ _ _ r18 ((ki.alloc _).of_below bY) ((blkAt _ zy Ty rfl).of_below bY) (by rw [szl]; omega) (Nat.le_refl _) (by rw [szl]; omega) hY (b2.trans (bY.mono b2.size))
  · obtain rfl := List.mem_singleton.1 hx
    have bj := al w zy Ty
    refine wpOp_val hj gj (ay _ _) ⟨hS _ bj, ?_⟩
    rw [dj]
    have kj := blkAt w zy Ty rfl
    have b2 := bj.trans ((al _ zx Tx).mono bj.size)
    refine ws_two r7 ?_ (wpOp_val hi gi (ax _ _) ⟨hS _ b2, ?_⟩)
    · refine hc2 _ _ _ bj fun t Y bY hY => ⟨hS _ (bj.trans (bY.mono bj.size)), ?_⟩
      refine fol (n := 3) t r13 (put_sz _ _ _) (hS _ (bj.trans (bY.mono bj.size))) ?_
      rw [movy]
      have bi := al Y zx Tx
      have kY := kj.of_below bY
      have bwY := bj.trans (bY.mono bj.size)
      refine wpAnyH_one r8 (wpOp_val hi gi (ax _ _) ⟨hS _ (bwY.trans (bi.mono bwY.size)), ?_⟩)
      rw [di, put_comm' (Ne.symm xy)]
      exact fin t _ _ _ r19 (blkAt _ zx Tx rfl) (kY.alloc _) (Ne.symm (Nat.ne_of_lt kY.lt)) bwY.size (Nat.le_refl _) (hRB t _ _ hY bi) (bwY.trans (bi.mono bwY.size))
    · rw [di, put_comm' (Ne.symm xy)]
      refine wpAnyH_one r9 (hc3 _ _ _ _ b2 fun t Y bY hY => ⟨hS _ (b2.trans (bY.mono b2.size)), ?_⟩)
      refine fol (n := 2) t r14 (by rw [put_sz, put_sz]) (hS _ (b2.trans (bY.mono b2.size))) ?_
      rw [movy, movx]
      exact fin t _ _ _ r20 ((blkAt _ zx Tx rfl).of_below bY) ((kj.alloc _).of_below bY) (by rw [szl]; omega) (by rw [szl]; omega) (Nat.le_refl _) hY (b2.trans (bY.mono b2.size))
end
end Go.Proofs.YtedapgeabpadaaaDoor

set_option linter.unusedVariables false
set_option linter.unusedSimpArgs false
namespace Go.Proofs.YtedapgeabpadaaaDoor
open Go.RowKit Pl Go.PlainAid Go.Shelf

/-- What Get comes to. -/
def DgPost (w : World) (r : Pk × Int) (e : Ending) (w' : World) : Prop := ∃ m, e = .returned (.tuple #[.agg (pkA .i64 r.1 m), .int .i64 r.2]) ∧ PkD w.heap.size w' r.1 m ∧ Below w.heap.size w w'
/-- Get's own blocks: the result's, none, p. -/
structure Dg (w : World) (gn gk : Nat) (p : Pk) (X : World) : Prop where
  bl : Below w.heap.size w X
  r : Blk X w.heap.size (pkA .i64 zPk nHs) 52
  n : Blk X gn (pkA .i64 zPk nHs) 52
  k : Blk X gk (pkA .i64 p nHs) 52
  ng : gn ≠ w.heap.size
theorem Dg.step {w X Y : World} {gn gk : Nat} {p : Pk} (h : Dg w gn gk p X) (b : Below X.heap.size X Y) : Dg w gn gk p Y := ⟨h.bl.trans (b.mono h.bl.size), h.r.of_below b, h.n.of_below b, h.k.of_below b, h.ng⟩
theorem Dg.nil {w X : World} {gn gk : Nat} {p : Pk} (h : Dg w gn gk p X) : ∃ Z, X.setRow w.heap.size (pkA .i64 zPk nHs) = Z ∧ Blk Z w.heap.size (pkA .i64 zPk nHs) 52 ∧ Below w.heap.size w Z := ⟨_, rfl, h.r.row0 _, below_setRow h.bl (Nat.le_refl _) _⟩
theorem PkD.nil {B : Nat} {w : World} {p : Pk} (h1 : p.ps = []) (h2 : p.wps = []) (h3 : p.codes = []) (h4 : p.subs = []) (h5 : p.filters = []) : PkD B w p nHs :=
  ⟨by rw [h1]; exact Sl.nil _ _ _ _, by rw [h2]; exact Sl.nil _ _ _ _, by rw [h3]; exact Sl.nil _ _ _ _, by rw [h4]; exact Sl.nil _ _ _ _, by rw [h5]; exact Sl.nil _ _ _ _⟩
theorem dk_body {T : ByteArray} {p q : Pk} {a c : Int} (h : dKind T p (0, 0) = ((a, c), q)) : rBody T p 0 = if c ≠ 0 then .error c else if a < T.size then .error 129 else .ok (q, a) := by
  have H := (agd_kind T p).ag 0
  rw [h] at H
  unfold rBody bindR
  obtain ⟨r, hr⟩ : ∃ r, rKind T p 0 = r := ⟨_, rfl⟩
  rw [hr] at H ⊢
  cases r with
  | error e =>
    obtain ⟨h1, h2⟩ := H
    have h2 : c = e := h2
    subst h2
    simp only [ne_eq]
    rw [if_pos h1]
  | ok v =>
    obtain ⟨v, b⟩ := v
    have H : ((a, c), q) = ((b, 0), v) := H
    cases H
    simp
def ctlG : Nat → Code → Code
  | 0, c => c
  | n + 1, .seq _ d => ctlG n d
  | _ + 1, c => c
def chd : Code → Code
  | .seq a _ => a
  | c => c
noncomputable abbrev dgc (n : Nat) : Code := ctlG n ((Tryd.f19).body.getD .skip)
/-- The plain end of Get. -/
def gTail (s : ByteArray) (p : Pk) : Pk × Int :=
  if (getV s 1).2.2 ≠ 0 then (zPk, (getV s 1).2.2) else if 65536 < (getV s 1).1 then (zPk, 149)
  else if (s.size : Int) - (getV s 1).2.1 < (getV s 1).1 then (zPk, 242) else if (s.size : Int) - (getV s 1).2.1 ≠ (getV s 1).1 then (zPk, 129)
  else match rBody (s.extract (getV s 1).2.1.toNat s.size) p 0 with
  | .error c => (zPk, c)
  | .ok (q, _) => (q, 0)
theorem gtail_of {s : ByteArray} {p : Pk} (h0 : s.size ≠ 0) (h : hdO (bt s 0) = some p) : pkGet s = gTail s p := by
  unfold pkGet gTail
  rw [if_neg h0, h]
  rfl
theorem gtail_bad {s : ByteArray} (h0 : s.size ≠ 0) (h : hdO (bt s 0) = none) : pkGet s = (zPk, 129) := by
  unfold pkGet
  rw [if_neg h0, h]
set_option maxHeartbeats 16000000 in
set_option maxRecDepth 100000 in
theorem dget_t {x1 x5 x7 x8 x9 x10 x11 x12 x13 x14 x15 x16 x17 x18 x19 x20 x21 x22 x23 x24 x25 x26 x27 x28 x29 x30 x31 x32 x33 x34 x35 x36 x37 x38 x39 x40 x41 x42 x43 x44 x45 x46 x47 x48 x49 x50 x51 x52 x53 x54 x55 x56 x57 x58 x59 x60 x61 x62 x63 x64 x65 x66 x67 x68 x69 x70 x71 x72 x73 x74 x75 x76 x77 x78 x79 x80 x81 x82 x83 x84 x85 x86 x87 x88 x89 x90 x91 x92 x93 x94 x95 x96 x97 x98 x99 x100 x101 x102 x103 x104 x105 x106 x107 x108 x109 x110 x111 x112 : Value} (s : ByteArray) (w X : World) (gn gk : Nat) (p : Pk) (h : Dg w gn gk p X) (h1 : 1 ≤ s.size) (hs : s.size ≤ 140737488351232) (hz : p.codes = [] ∧ p.subs = [] ∧ p.filters = []) (hz2 : p.ps = [] ∧ p.wps = [])
    (CK : ∀ (T : ByteArray) (Y : World), T.size ≤ 140737488351232 → Calls Tryd.prog 39 #[.agg (inA T 0 0), .agg (pkA .i64 p nHs)] Y (DwPost Y.heap.size Y T (dKind T p (0, 0))))
    (K : Act → World → Prop) (hK : ∀ a w', (dgc 9).wp Tryd.prog (bodyPost Tryd.prog Tryd.f19 (DgPost w (gTail s p))) a w' → K a w') :
    (chd (dgc 8)).wp Tryd.prog (Exit.then K (bodyPost Tryd.prog Tryd.f19 (DgPost w (gTail s p)))) { tmps := #[.string s, x1, .pointer (some ⟨w.heap.size, 0, none⟩), .int .i64 0, .pointer (some ⟨gn, 0, none⟩), x5, .pointer (some ⟨gk, 0, none⟩), x7, x8, x9, x10, x11, x12, x13, x14, x15, x16, x17, x18, x19, x20, x21, x22, x23, x24, x25, x26, x27, x28, x29, x30, x31, x32, x33, x34, x35, x36, x37, x38, x39, x40, x41, x42, x43, x44, x45, x46, x47, x48, x49, x50, x51, x52, x53, x54, x55, x56, x57, x58, x59, x60, x61, x62, x63, x64, x65, x66, x67, x68, x69, x70, x71, x72, x73, x74, x75, x76, x77, x78, x79, x80, x81, x82, x83, x84, x85, x86, x87, x88, x89, x90, x91, x92, x93, x94, x95, x96, x97, x98, x99, x100, x101, x102, x103, x104, x105, x106, x107, x108, x109, x110, x111, x112], defers := [] } X := by
  conv => arg 2; whnf
  conv at hK => enter [a, w', 1, 2]; whnf
  obtain ⟨RES, hres⟩ : ∃ RES, gTail s p = RES := ⟨_, rfl⟩
  rw [hres] at hK ⊢
  unfold gTail at hres
  obtain ⟨⟨n, fr, c⟩, hg⟩ : ∃ g, getV s 1 = g := ⟨_, rfl⟩
  rw [hg] at hres
  simp only at hres
  have CV := Lib.hid (refget_all s 1 X hs (by decide) (by decide))
  rw [hg] at CV
  simp only at CV
  have HG := Lib.hid hg
  have HRES := Lib.hid hres
  have H := Lib.hid h
  have HCK := Lib.hid CK
  obtain ⟨Z, hZ, hZr, hZb⟩ := h.nil
  have HZ := Lib.hid hZ
  have HZR := Lib.hid hZr
  have HZB := Lib.hid hZb
  clear hg hres h CK hZ hZr hZb
  by_cases hc : c = 0
  · subst hc
    have hk := HRES.out
    rw [if_neg (by simp)] at hk
    have HK := Lib.hid hk; clear hk
    obtain ⟨i, j_, hfr, hi1, hi2, hn0, hn1⟩ : ∃ (i j_ : Nat), fr = i ∧ 1 < i ∧ i ≤ s.size ∧ 0 ≤ n ∧ n ≤ 268435455 := by
      obtain ⟨i, j, h1, h2, h3, h4, _, h5, h6⟩ := getV_to HG.out
      exact ⟨j, 0, h2, by omega, h4, h5, h6⟩
    subst hfr
    have hiI : (1 : Int) < (i : Int) := by omega
    have hisI : (i : Int) ≤ (s.size : Int) := by omega
    by_cases h149 : 65536 < n
    · have hk := HK.out
      rw [if_pos h149] at hk
      subst hk
      go_wp2_with (first | (go_at_call 36; (with_reducible refine CV.out.mono ?_); rintro e YV ⟨rfl, rfl⟩) | (refine wpList_load_row rfl 52 (.tmp 4) rfl (gn) rfl 52 _ (0, 0) _ H.out.n Tryd.underlying52 rfl dpk_size ?_) | (refine wpList_store_rowN rfl 52 (.tmp 2) (.tmp 75) rfl rfl (w.heap.size) (pkA .i64 zPk nHs) rfl rfl 52 (pkA .i64 zPk nHs) H.out.r dpk_size rfl (dpk_one _ _) Z HZ.out ?_) | (fail))
      refine bodyPost_ret (v := .tuple #[.agg (pkA .i64 zPk nHs), .int .i64 149]) (results_row_tmp (t1 := 2) (t2 := 3) (ty1 := 52) (by kernel_rfl) _ _ w.heap.size 52 _ _ _ rfl rfl HZR.out Tryd.underlying52 rfl dpk_size) rfl ?_
      exact ⟨nHs, rfl, PkD.zero _ _, HZB.out⟩
    · have hk := HK.out
      rw [if_neg h149] at hk
      have HK2 := Lib.hid hk; clear hk
      have h149I : n ≤ 65536 := by omega
      by_cases h242 : (s.size : Int) - (i : Int) < n
      · have hk := HK2.out
        rw [if_pos h242] at hk
        subst hk
        go_wp2_with (first | (go_at_call 36; (with_reducible refine CV.out.mono ?_); rintro e YV ⟨rfl, rfl⟩) | (refine wpList_load_row rfl 52 (.tmp 4) rfl (gn) rfl 52 _ (0, 0) _ H.out.n Tryd.underlying52 rfl dpk_size ?_) | (refine wpList_store_rowN rfl 52 (.tmp 2) (.tmp 82) rfl rfl (w.heap.size) (pkA .i64 zPk nHs) rfl rfl 52 (pkA .i64 zPk nHs) H.out.r dpk_size rfl (dpk_one _ _) Z HZ.out ?_) | (fail))
        refine bodyPost_ret (v := .tuple #[.agg (pkA .i64 zPk nHs), .int .i64 242]) (results_row_tmp (t1 := 2) (t2 := 3) (ty1 := 52) (by kernel_rfl) _ _ w.heap.size 52 _ _ _ rfl rfl HZR.out Tryd.underlying52 rfl dpk_size) rfl ?_
        exact ⟨nHs, rfl, PkD.zero _ _, HZB.out⟩
      · have hk := HK2.out
        rw [if_neg h242] at hk
        have HK3 := Lib.hid hk; clear hk
        have h242I : n ≤ (s.size : Int) - (i : Int) := by omega
        by_cases h129 : (s.size : Int) - (i : Int) = n
        · have hk := HK3.out
          rw [if_neg (fun c => c h129)] at hk
          have HK4 := Lib.hid hk; clear hk
          have h129I : ¬ (n < (s.size : Int) - (i : Int)) := by omega
          have H129 := Lib.hid h129; clear h129
          obtain ⟨T, hT'⟩ : ∃ T, s.extract i s.size = T := ⟨_, rfl⟩
          have hk := HK4.out
          rw [Int.toNat_natCast, hT'] at hk
          have HK5 := Lib.hid hk; clear hk
          have hTs : T.size ≤ 140737488351232 := by rw [← hT', ByteArray.size_extract]; omega
          obtain ⟨⟨⟨a, c⟩, q⟩, hx⟩ : ∃ x, dKind T p (0, 0) = x := ⟨_, rfl⟩
          have hk := HK5.out
          rw [dk_body hx] at hk
          have HK6 := Lib.hid hk; clear hk
          have CB : ∀ Y : World, Calls Tryd.prog 39 #[.agg (inA T 0 0), .agg (pkA .i64 p nHs)] Y (DwPost Y.heap.size Y T ((a, c), q)) := fun Y => by rw [← hx]; exact HCK.out T Y hTs
          have CB := Lib.hid CB
          have HX := Lib.hid hx
          clear hx
          go_wp2_with (first | (go_at_call 36; (with_reducible refine CV.out.mono ?_); rintro e YV ⟨rfl, rfl⟩) | (fail))
          refine wp_region_held (S := fun W => Below X.heap.size X W) (by kernel_rfl) ?_
          change wpAnyH _ _ _ _ _ _ _ _ X.drew
          have hd0 : Below X.heap.size X X.drew := (Below.refl _ _).drew
          refine' wpAnyH_takeD (i := 0) (d := 91) (v := .string s) (hi := ?hi91) ?hd91 (by kernel_rfl) (by kernel_rfl) (by kernel_rfl) (fun _ _ _ h => h) (Or.inl ⟨?hw91, ?hy91⟩) hd0 ?rest91
          case hi91 => (simp only [List.getElem?_toArray, List.getElem?_cons_succ, List.getElem?_cons_zero]; rfl)
          case hd91 => rfl
          case hw91 => rfl
          case hy91 => (intro W hW; go_simp; (try rfl))
          case rest91 =>
          simp only [Act.put, List.setIfInBounds_toArray, List.set_cons_succ, List.set_cons_zero]
          refine' wpAnyH_takeD (i := 1) (d := 92) (v := .int .i64 i) (hi := ?hi92) ?hd92 (by kernel_rfl) (by kernel_rfl) (by kernel_rfl) (fun _ _ _ h => h) (Or.inl ⟨?hw92, ?hy92⟩) hd0 ?rest92
          case hi92 => (simp only [List.getElem?_toArray, List.getElem?_cons_succ, List.getElem?_cons_zero]; rfl)
          case hd92 => rfl
          case hw92 => rfl
          case hy92 => (intro W hW; go_simp; (try rfl))
          case rest92 =>
          simp only [Act.put, List.setIfInBounds_toArray, List.set_cons_succ, List.set_cons_zero]
          refine' wpAnyH_takeD (i := 2) (d := 93) (v := .string T) (hi := ?hi93) ?hd93 (by kernel_rfl) (by kernel_rfl) (by kernel_rfl) (fun _ _ _ h => h) (Or.inl ⟨?hw93, ?hy93⟩) hd0 ?rest93
          case hi93 => (simp only [List.getElem?_toArray, List.getElem?_cons_succ, List.getElem?_cons_zero]; rfl)
          case hd93 => rfl
          case hw93 => rfl
          case hy93 => (intro W hW; go_simp; (try rfl))
          case rest93 =>
          simp only [Act.put, List.setIfInBounds_toArray, List.set_cons_succ, List.set_cons_zero]
          refine' wpAnyH_takeD (i := 3) (d := 94) (v := .agg (inA T 0 0)) (hi := ?hi94) ?hd94 (by kernel_rfl) (by kernel_rfl) (by kernel_rfl) (fun _ _ _ h => h) (Or.inl ⟨?hw94, ?hy94⟩) hd0 ?rest94
          case hi94 => (simp only [List.getElem?_toArray, List.getElem?_cons_succ, List.getElem?_cons_zero]; rfl)
          case hd94 => rfl
          case hw94 => rfl
          case hy94 => (intro W hW; go_simp; (try rfl))
          case rest94 =>
          simp only [Act.put, List.setIfInBounds_toArray, List.set_cons_succ, List.set_cons_zero]
          refine wpAnyH_takeD (i := 4) (d := 95) (v := .agg (pkA .i64 p nHs)) rfl rfl (by kernel_rfl) (by kernel_rfl) (by kernel_rfl) (fun _ _ _ h => h) (y_load _ rfl rfl rfl (fun W hW => run_loadAt_row W _ _ _ _ _ _ (H.out.k.of_below hW) Tryd.underlying52 rfl dpk_size)) hd0 ?_
          simp only [Act.put, List.setIfInBounds_toArray, List.set_cons_succ, List.set_cons_zero]
          refine wpAnyH_call_two (ι := Hs) (c := 5) (m := 6) (e1 := 7) (e2 := 8) (i := 9) (j := 10) (k := 11) (l := 12) (dc := 96) (dm := 90) (d1 := 97) (d2 := 98) (dx := 12) (dy := 13) (Tx := 118) (Ty := 52) (zx := #[.string ⟨#[]⟩, .int .i64 0, .int .i64 0]) (zy := #[.int .i64 0, .bool false, .bool false, .int .i64 0, .int .i64 0, .string ⟨#[]⟩, .string ⟨#[]⟩, .int .i64 0, .slice none 0 0, .slice none 0 0, .string ⟨#[]⟩, .bool false, .int .i64 0, .bool false, .string ⟨#[]⟩, .string ⟨#[]⟩, .int .i64 0, .bool false, .slice none 0 0, .bool false, .bool false, .string ⟨#[]⟩, .string ⟨#[]⟩, .bool false, .slice none 0 0, .slice none 0 0]) (cx := fun _ => inA T a c) (cy := fun m => pkA .i64 q m) (u := fun m => .tuple #[.agg (inA T a c), .agg (pkA .i64 q m)]) (RY := fun m Y => PkD X.heap.size Y q m) _ _ _ _ (by kernel_rfl) (by kernel_rfl) (fun _ _ _ _ _ h => h)
            rfl rfl rfl rfl rfl rfl rfl rfl rfl rfl rfl rfl rfl rfl ?ax ?ay ?hm ?h1 ?h2 (by simp) (by simp) (by simp) (by simp) (by simp) (by simp) (by decide) (by decide) (by decide) (by decide) (by decide) (by decide) (by decide) (by decide) (by decide) (by decide) (by decide)
            (fun _ => in_size) (fun _ => dpk_size) (fun _ => rfl) (fun _ => rfl) (fun _ => in_one _ _ _) (fun _ => dpk_one _ _) ?hc0 ?hc1 ?hc2 ?hc3 (fun m Y V hd hb => hd.below hb) (fun m Y g z cs hg hd => hd.row hg (.inl rfl) cs) (fun m Y g z cs hg hd => hd.row hg (.inr rfl) cs) (fun W hb => hd0.trans (hb.mono hd0.size)) ?fin
          case ax => (intro ρ W; go_simp)
          case ay => (intro ρ W; go_simp)
          case hm => (intro m; refine ⟨_, rfl, rfl, rfl, fun b W hb _ => ?_⟩; have hb' : b.tmps[96]?.getD undef = .tuple #[.agg (inA T a c), .agg (pkA .i64 q m)] := (by simpa using (show b.tmps.getD 96 undef = _ from hb)); go_simp)
          case h1 => (intro m; refine ⟨_, rfl, rfl, rfl, fun b W hb _ => ?_⟩; have hb' : b.tmps[90]?.getD undef = .tuple #[.agg (inA T a c), .agg (pkA .i64 q m)] := (by simpa using (show b.tmps.getD 90 undef = _ from hb)); go_simp)
          case h2 => (intro m; refine ⟨_, rfl, rfl, rfl, fun b W hb _ => ?_⟩; have hb' : b.tmps[90]?.getD undef = .tuple #[.agg (inA T a c), .agg (pkA .i64 q m)] := (by simpa using (show b.tmps.getD 90 undef = _ from hb)); go_simp)
          case hc0 =>
            intro Y K hY hK
            refine' wpOp_of_wp ?ho0 ?hg0 ?hz0
            case ho0 => (simp only [List.getElem?_toArray, List.getElem?_cons_succ, List.getElem?_cons_zero]; rfl)
            case hg0 => rfl
            case hz0 =>
              go_simp
              (with_reducible refine (CB.out Y).mono ?_)
              rintro e V ⟨m, rfl, hd, hb⟩
              exact hK m V hb (hd.mono (Nat.le_trans hd0.size hY.size))
          case hc1 =>
            intro pp Y K hY hK
            refine' wpOp_of_wp ?ho1 ?hg1 ?hz1
            case ho1 => (simp only [List.getElem?_toArray, List.getElem?_cons_succ, List.getElem?_cons_zero]; rfl)
            case hg1 => rfl
            case hz1 =>
              go_simp
              (with_reducible refine (CB.out Y).mono ?_)
              rintro e V ⟨m, rfl, hd, hb⟩
              exact hK m V hb (hd.mono (Nat.le_trans hd0.size hY.size))
          case hc2 =>
            intro pp Y K hY hK
            refine' wpOp_of_wp ?ho2 ?hg2 ?hz2
            case ho2 => (simp only [List.getElem?_toArray, List.getElem?_cons_succ, List.getElem?_cons_zero]; rfl)
            case hg2 => rfl
            case hz2 =>
              go_simp
              (with_reducible refine (CB.out Y).mono ?_)
              rintro e V ⟨m, rfl, hd, hb⟩
              exact hK m V hb (hd.mono (Nat.le_trans hd0.size hY.size))
          case hc3 =>
            intro pp qq Y K hY hK
            refine' wpOp_of_wp ?ho3 ?hg3 ?hz3
            case ho3 => (simp only [List.getElem?_toArray, List.getElem?_cons_succ, List.getElem?_cons_zero]; rfl)
            case hg3 => rfl
            case hz3 =>
              go_simp
              (with_reducible refine (CB.out Y).mono ?_)
              rintro e V ⟨m, rfl, hd, hb⟩
              exact hK m V hb (hd.mono (Nat.le_trans hd0.size hY.size))
          case fin =>
          intro m bx bz V kx ky hne lx ly hd hb
          simp only [Act.put, List.setIfInBounds_toArray, List.set_cons_succ, List.set_cons_zero]
          have lx : X.heap.size ≤ bx := lx
          have ly : X.heap.size ≤ bz := ly
          have hbx : Below X.heap.size X V := hd0.trans (hb.mono hd0.size)
          have KX := Lib.hid kx
          have KY := Lib.hid ky
          have KD := Lib.hid (hd.mono (B' := w.heap.size) H.out.bl.size)
          have HV := Lib.hid (H.out.step hbx)
          have v0 : V.cell? ⟨bx, 0, none⟩ = some (.string T) := kx.cell 0
          have v1 : V.cell? ⟨bx, 1, none⟩ = some (.int .i64 a) := kx.cell 1
          have v2 : V.cell? ⟨bx, 2, none⟩ = some (.int .i64 c) := kx.cell 2
          have LX := Lib.hid (Nat.lt_of_lt_of_le H.out.r.lt lx)
          obtain ⟨Y, hY, hYr, hYb⟩ := HV.out.nil
          have HY := Lib.hid hY
          have HYR := Lib.hid hYr
          have HYB := Lib.hid hYb
          clear kx ky hne lx ly hd hb hbx hY hYr hYb hd0
          by_cases hcc : c = 0
          · subst hcc
            have hk := HK6.out
            rw [if_neg (by decide)] at hk
            have HK7 := Lib.hid hk; clear hk
            by_cases hat : a < (T.size : Int)
            · have hk := HK7.out
              rw [if_pos hat] at hk
              simp only at hk
              subst hk
              clear HK6 HK7
              go_wp2_with (first | (refine wpList_load_row rfl 52 (.tmp 4) rfl (gn) rfl 52 _ (0, 0) _ HV.out.n Tryd.underlying52 rfl dpk_size ?_) | (refine wpList_store_rowN rfl 52 (.tmp 2) (.tmp 111) rfl rfl (w.heap.size) (pkA .i64 zPk nHs) rfl rfl 52 (pkA .i64 zPk nHs) HV.out.r dpk_size rfl (dpk_one _ _) Y HY.out ?_) | (fail))
              refine bodyPost_ret (v := .tuple #[.agg (pkA .i64 zPk nHs), .int .i64 129]) (results_row_tmp (t1 := 2) (t2 := 3) (ty1 := 52) (by kernel_rfl) _ _ w.heap.size 52 _ _ _ rfl rfl HYR.out Tryd.underlying52 rfl dpk_size) rfl ?_
              exact ⟨nHs, rfl, PkD.zero _ _, HYB.out⟩
            · have hk := HK7.out
              rw [if_neg hat] at hk
              simp only at hk
              subst hk
              clear HK6 HK7
              have hatd : decide (a < (T.size : Int)) = false := decide_eq_false hat
              clear hat
              obtain ⟨U, hU⟩ : ∃ U, V.setRow w.heap.size (pkA .i64 q m) = U := ⟨_, rfl⟩
              have u1 := HV.out.r.row0 (pkA .i64 q m)
              have u2 := below_setRow HV.out.bl (Nat.le_refl _) (pkA .i64 q m)
              have u3 := KD.out.row HV.out.r (.inr rfl) (pkA .i64 q m)
              rw [hU] at u1 u2 u3
              have HU := Lib.hid hU
              have U1 := Lib.hid u1
              have U2 := Lib.hid u2
              have U3 := Lib.hid u3
              clear hU u1 u2 u3
              go_wp2_with (first | (refine wpList_load_row rfl 52 (.tmp 13) rfl (bz) rfl 52 _ (0, 0) _ KY.out Tryd.underlying52 rfl dpk_size ?_) | (refine wpList_store_rowN rfl 52 (.tmp 2) (.tmp 112) rfl rfl (w.heap.size) (pkA .i64 q m) rfl rfl 52 (pkA .i64 zPk nHs) HV.out.r dpk_size rfl (dpk_one _ _) U HU.out ?_) | (fail))
              refine bodyPost_ret (v := .tuple #[.agg (pkA .i64 q m), .int .i64 0]) (results_row_tmp (t1 := 2) (t2 := 3) (ty1 := 52) (by kernel_rfl) _ _ w.heap.size 52 _ _ _ rfl rfl U1.out Tryd.underlying52 rfl dpk_size) rfl ?_
              exact ⟨m, rfl, U3.out, U2.out⟩
          · have hk := HK6.out
            rw [if_pos hcc] at hk
            simp only at hk
            subst hk
            have z0 : (c == 0) = false := beq_eq_false_iff_ne.2 hcc
            have z1 : (c != 0) = true := by rw [bne, z0]; rfl
            clear hcc HK6
            go_wp2_with fail
            refine wp_region_held (S := fun W => Blk W gn (pkA .i64 zPk nHs) 52 ∧ W.cell? ⟨bx, 2, none⟩ = some (.int .i64 c)) (by kernel_rfl) ?_
            change wpAnyH _ _ _ _ _ _ _ _ V.drew
            have sd : (Blk V.drew gn (pkA .i64 zPk nHs) 52 ∧ V.drew.cell? ⟨bx, 2, none⟩ = some (.int .i64 c)) := ⟨HV.out.n, v2⟩
            have vr : Blk V.drew w.heap.size (pkA .i64 zPk nHs) 52 := HV.out.r
            have vb : Below w.heap.size w V.drew := HV.out.bl.drew
            refine wpAnyH_takeD (i := 0) (d := 102) (v := .agg (pkA .i64 zPk nHs)) rfl rfl (by kernel_rfl) (by kernel_rfl) (by kernel_rfl) (fun _ _ _ h => h) (y_load _ rfl rfl rfl (fun W hW => run_loadAt_row W _ _ _ _ _ _ hW.1 Tryd.underlying52 rfl dpk_size)) sd ?_
            simp only [Act.put, List.setIfInBounds_toArray, List.set_cons_succ, List.set_cons_zero]
            refine' wpAnyH_takeD (i := 1) (d := 103) (v := .pointer (some ⟨bx, 2, none⟩)) (hi := ?hi103) ?hd103 (by kernel_rfl) (by kernel_rfl) (by kernel_rfl) (fun _ _ _ h => h) (Or.inl ⟨?hw103, ?hy103⟩) sd ?rest103
            case hi103 => (simp only [List.getElem?_toArray, List.getElem?_cons_succ, List.getElem?_cons_zero]; rfl)
            case hd103 => rfl
            case hw103 => rfl
            case hy103 => (intro W hW; go_simp; (try rfl))
            case rest103 =>
            simp only [Act.put, List.setIfInBounds_toArray, List.set_cons_succ, List.set_cons_zero]
            refine wpAnyH_takeD (i := 2) (d := 104) (v := .int .i64 c) rfl rfl (by kernel_rfl) (by kernel_rfl) (by kernel_rfl) (fun _ _ _ h => h) (Or.inl ⟨rfl, fun W hW => by have hw2 := hW.2; go_simp⟩) sd ?_
            simp only [Act.put, List.setIfInBounds_toArray, List.set_cons_succ, List.set_cons_zero]
            refine wpAnyH_one (i := 3) (by kernel_rfl) (wpOp_skip rfl rfl (run_store_rowM 52 _ _ rfl w.heap.size (pkA .i64 zPk nHs) rfl rfl 52 (pkA .i64 zPk nHs) vr dpk_size rfl (dpk_one _ _)) ⟨⟨sd.1.row1 HV.out.ng _, (cell_setRow_other _ _ _ _ (by have := LX.out; show bx ≠ w.heap.size; omega)).trans sd.2⟩, ?_⟩)
            refine wpAnyH_takeD (i := 4) (d := 3) (v := .int .i64 c) rfl rfl (by kernel_rfl) (by kernel_rfl) (by kernel_rfl) (fun _ _ _ h => h) (Or.inl ⟨rfl, fun W hW => by go_simp⟩) ⟨sd.1.row1 HV.out.ng _, (cell_setRow_other _ _ _ _ (by have := LX.out; show bx ≠ w.heap.size; omega)).trans sd.2⟩ ?_
            simp only [Act.put, List.setIfInBounds_toArray, List.set_cons_succ, List.set_cons_zero]
            refine ⟨by kernel_rfl, ?_⟩
            have vr2 := vr.row0 (pkA .i64 zPk nHs)
            have vb2 := below_setRow vb (Nat.le_refl _) (pkA .i64 zPk nHs)
            have VR := Lib.hid vr2
            have VB := Lib.hid vb2
            clear vr vb sd vr2 vb2
            go_wp2_with fail
            refine bodyPost_ret (v := .tuple #[.agg (pkA .i64 zPk nHs), .int .i64 c]) (results_row_tmp (t1 := 2) (t2 := 3) (ty1 := 52) (by kernel_rfl) _ _ w.heap.size 52 _ _ _ rfl rfl VR.out Tryd.underlying52 rfl dpk_size) rfl ?_
            exact ⟨nHs, rfl, PkD.zero _ _, VB.out⟩
        · have hk := HK3.out
          rw [if_pos h129] at hk
          subst hk
          have h129I : n < (s.size : Int) - (i : Int) := by omega
          go_wp2_with (first | (go_at_call 36; (with_reducible refine CV.out.mono ?_); rintro e YV ⟨rfl, rfl⟩) | (refine wpList_load_row rfl 52 (.tmp 4) rfl (gn) rfl 52 _ (0, 0) _ H.out.n Tryd.underlying52 rfl dpk_size ?_) | (refine wpList_store_rowN rfl 52 (.tmp 2) (.tmp 89) rfl rfl (w.heap.size) (pkA .i64 zPk nHs) rfl rfl 52 (pkA .i64 zPk nHs) H.out.r dpk_size rfl (dpk_one _ _) Z HZ.out ?_) | (fail))
          refine bodyPost_ret (v := .tuple #[.agg (pkA .i64 zPk nHs), .int .i64 129]) (results_row_tmp (t1 := 2) (t2 := 3) (ty1 := 52) (by kernel_rfl) _ _ w.heap.size 52 _ _ _ rfl rfl HZR.out Tryd.underlying52 rfl dpk_size) rfl ?_
          exact ⟨nHs, rfl, PkD.zero _ _, HZB.out⟩
  · have hk := HRES.out
    rw [if_pos hc] at hk
    subst hk
    have z0 : (c == 0) = false := beq_eq_false_iff_ne.2 hc
    have z1 : (c != 0) = true := by rw [bne, z0]; rfl
    clear hc
    go_wp2_with (first | (go_at_call 36; (with_reducible refine CV.out.mono ?_); rintro e YV ⟨rfl, rfl⟩) | (refine wpList_load_row rfl 52 (.tmp 4) rfl (gn) rfl 52 _ (0, 0) _ H.out.n Tryd.underlying52 rfl dpk_size ?_) | (refine wpList_store_rowN rfl 52 (.tmp 2) (.tmp 71) rfl rfl (w.heap.size) (pkA .i64 zPk nHs) rfl rfl 52 (pkA .i64 zPk nHs) H.out.r dpk_size rfl (dpk_one _ _) Z HZ.out ?_) | (fail))
    refine bodyPost_ret (v := .tuple #[.agg (pkA .i64 zPk nHs), .int .i64 c]) (results_row_tmp (t1 := 2) (t2 := 3) (ty1 := 52) (by kernel_rfl) _ _ w.heap.size 52 _ _ _ rfl rfl HZR.out Tryd.underlying52 rfl dpk_size) rfl ?_
    exact ⟨nHs, rfl, PkD.zero _ _, HZB.out⟩
end Go.Proofs.YtedapgeabpadaaaDoor

