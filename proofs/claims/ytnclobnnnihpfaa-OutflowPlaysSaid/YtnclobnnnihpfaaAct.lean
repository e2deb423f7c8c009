/- A call of the script as plain data; its packet (the laws' 'answer'). -/
import Derived.Test.YtnclobnnnihpfaaFWakes
import Derived.Deep.RegionHeld3
import Derived.Deep.MidRow
namespace Go.Proofs.Ytnclobnnnihpfaa
set_option linter.unusedVariables false
set_option linter.unusedSimpArgs false
open Go.RowKit Go.Maps

structure Av where
  act : Int
  m : OM
  kind : Int
  id : Int
  code : Int
  most : Int
def actA (a : Av) : Array Value := #[.int .i64 a.act, .string a.m.topic, .string a.m.payload, .int .i64 a.m.qos, .bool a.m.retain, .string a.m.tag, .int .i64 a.kind, .int .i64 a.id, .int .u8 a.code, .int .i64 a.most]
/-- The kind of an answer. -/
def ansK (x : Int) : Int := if x = 0 then 4 else if x = 1 then 5 else if x = 2 then 7 else if x = 3 then 6 else 3
def ansI (kind : Int) : Int := (if 0 < kind then kind else 0) % 5
/-- The document's packet. -/
def refA (k id code : Int) : Array Value :=
  #[.int .i64 k, .bool false, .bool false, .int .i64 0, .int .i64 id, .string ⟨#[]⟩, .string ⟨#[]⟩, .int .i64 code, .slice none 0 0, .slice none 0 0, .string ⟨#[]⟩, .bool false, .int .i64 0, .bool false, .string ⟨#[]⟩, .string ⟨#[]⟩, .int .i64 0, .bool false, .slice none 0 0, .bool false, .bool false, .string ⟨#[]⟩, .string ⟨#[]⟩, .bool false, .slice none 0 0, .slice none 0 0]
theorem ans_one (k id code : Int) : (ansA k id code).all (·.oneCell') = true := by simp [ansA]; simp [Value.oneCell']
theorem ref_one (k id code : Int) : (refA k id code).all (·.oneCell') = true := by simp [refA]; simp [Value.oneCell']
theorem rpk_size : (Try.prog.info? 56).map (·.size) = some 26 := by kernel_rfl
theorem results_two_rows {P : Program} {fn : Func} {t1 t2 : Nat} {ty1 ty2 : TypeId} (h : fn.results = #[.cell t1 ty1, .cell t2 ty2]) (tmps : Array Value) (w : World) (g1 g2 : Nat) (s1 s2 : TypeId) (c1 c2 : Array Value) (d1 d2 : TypeDesc)
    (p1 : tmps.getD t1 undef = .pointer (some ⟨g1, 0, none⟩)) (p2 : tmps.getD t2 undef = .pointer (some ⟨g2, 0, none⟩)) (k1 : Blk w g1 c1 s1) (k2 : Blk w g2 c2 s2)
    (u1 : P.underlying ty1 = some d1) (q1 : (match d1 with | .struct _ | .array _ _ => true | _ => false) = true) (i1 : (P.info? ty1).map (·.size) = some c1.size)
    (u2 : P.underlying ty2 = some d2) (q2 : (match d2 with | .struct _ | .array _ _ => true | _ => false) = true) (i2 : (P.info? ty2).map (·.size) = some c2.size) :
    (results fn tmps).run P w = .ok (.tuple #[.agg c1, .agg c2]) w := by
  have hp1 : tmps[t1]?.getD undef = .pointer (some ⟨g1, 0, none⟩) := by simpa using p1
  have hp2 : tmps[t2]?.getD undef = .pointer (some ⟨g2, 0, none⟩) := by simpa using p2
  simp [results, h, hp1, hp2, asAddr, run_loadVar_row w g1 s1 ty1 c1 (0, 0) d1 k1 u1 q1 i1, run_loadVar_row w g2 s2 ty2 c2 (0, 0) d2 k2 u2 q2 i2]
section
variable {P : Program} {ops : Array Oper} {Q : Exit → Act → World → Prop} {md : Region.Mode} {S : World → Prop}
theorem run_store_row {o : Oper} {a : Act} {w : World} (ty : TypeId) (x y : Operand) (ho : o.op = .store ty x y) (g : Nat) (cells : Array Value) (hx : a.eval x = .pointer (some ⟨g, 0, none⟩)) (hy : a.eval y = .agg cells)
    (t : TypeId) (old : Array Value) (hg : Blk w g old t) (hi : (P.info? ty).map (·.size) = some cells.size) (hold : old.size = cells.size) (h1 : cells.all (·.oneCell') = true) :
    (execOp a.eval o).run P w = .ok .skip (w.setRow g cells) := by
  unfold execOp
  simp only [ho, hx, hy, Instr.storeAt, Instr.sureAddr, Sem.run_bind, Sem.run_pure, Result.andThen_ok, run_storeVar_row w g t ty old cells hg hi hold h1]
/-- Two rows are stored, whichever first. -/
theorem wpAnyH_two_rows {i j b c : Nat} {ti tj vi vj : Nat} {Tb Tc tb tc : TypeId} {ob oc cb cc : Array Value} {L : Array Bool} {a : Act} {w : World} (oi oj : Oper)
    (hi : ops[i]? = some oi) (hj : ops[j]? = some oj) (gi : oi.guard = none) (gj : oj.guard = none) (di : oi.dst = none) (dj : oj.dst = none)
    (pi : oi.op = .store Tb (.tmp ti) (.tmp vi)) (pj : oj.op = .store Tc (.tmp tj) (.tmp vj))
    (hr : Region.ready md ops L = [i, j]) (hr1 : Region.ready md ops (L.setIfInBounds i true) = [j]) (hr2 : Region.ready md ops (L.setIfInBounds j true) = [i]) (hr3 : Region.ready md ops ((L.setIfInBounds i true).setIfInBounds j true) = []) (hr4 : Region.ready md ops ((L.setIfInBounds j true).setIfInBounds i true) = [])
    (e1 : a.eval (.tmp ti) = .pointer (some ⟨b, 0, none⟩)) (e2 : a.eval (.tmp tj) = .pointer (some ⟨c, 0, none⟩)) (e3 : a.eval (.tmp vi) = .agg cb) (e4 : a.eval (.tmp vj) = .agg cc)
    (hb : Blk w b ob tb) (hc : Blk w c oc tc) (hne : b ≠ c) (i1 : (P.info? Tb).map (·.size) = some cb.size) (i2 : (P.info? Tc).map (·.size) = some cc.size) (z1 : ob.size = cb.size) (z2 : oc.size = cc.size)
    (o1 : cb.all (·.oneCell') = true) (o2 : cc.all (·.oneCell') = true) (hS : ∀ W, S W) (h : ∀ Z, (Z = (w.setRow b cb).setRow c cc ∨ Z = (w.setRow c cc).setRow b cb) → Q .normal a Z) :
    wpAnyH P md ops Q S (0 + 1 + 1) L a w := by
  refine ⟨fun e => (by rw [hr] at e; cases e), fun k hk => ?_⟩
  rw [hr] at hk
  rcases List.mem_cons.1 hk with rfl | hk
  · refine wpOp_skip hi gi (run_store_row Tb _ _ pi b cb e1 e3 tb ob hb i1 z1 o1) ⟨hS _, ?_⟩
    rw [di]
    refine wpAnyH_one hr1 (wpOp_skip hj gj (run_store_row Tc _ _ pj c cc e2 e4 tc oc (hc.setRow_other (Ne.symm hne)) i2 z2 o2) ⟨hS _, hr3, ?_⟩)
    rw [dj]
    exact h _ (.inl rfl)
  · obtain rfl := List.mem_singleton.1 hk
    refine wpOp_skip hj gj (run_store_row Tc _ _ pj c cc e2 e4 tc oc hc i2 z2 o2) ⟨hS _, ?_⟩
    rw [dj]
    refine wpAnyH_one hr2 (wpOp_skip hi gi (run_store_row Tb _ _ pi b cb e1 e3 tb ob (hb.setRow_other hne) i1 z1 o1) ⟨hS _, hr4, ?_⟩)
    rw [di]
    exact h _ (.inr rfl)
end
set_option maxRecDepth 100000 in
set_option maxHeartbeats 4000000 in
theorem answer_any (a : Av) (w : World) (hc0 : 0 ≤ a.code) (hc1 : a.code ≤ 255) (hk0 : -9223372036854775808 ≤ a.kind) (hk1 : a.kind ≤ 9223372036854775807) :
    Calls Try.prog 11 #[.agg (actA a)] w fun e w' => e = .returned (.tuple #[.agg (ansA (ansK (ansI a.kind)) a.id a.code), .agg (refA (ansK (ansI a.kind)) a.id a.code)]) ∧ Below w.heap.size w w' := by
  obtain ⟨X, hX⟩ : ∃ X : Int, (if 0 < a.kind then a.kind else 0) = X := ⟨_, rfl⟩
  have hX0 : 0 ≤ X := by rw [← hX]; split <;> omega
  have hX1 : X ≤ 9223372036854775807 := by rw [← hX]; split <;> omega
  unfold ansI
  rw [hX]
  obtain ⟨m, hm, hm5⟩ : ∃ m : Nat, X % 5 = (m : Int) ∧ m < 5 := ⟨(X % 5).toNat, by omega, by omega⟩
  have b1 := (((blk_at w (actA a) 49 rfl).alloc (.cells (ansA 0 0 0) 37)).alloc (.cells (refA 0 0 0) 56)).alloc (.cells #[.int .i64 4, .int .i64 5, .int .i64 7, .int .i64 6, .int .i64 3] 28)
  have b2 := ((blk_at (w.alloc (.cells (actA a) 49)) (ansA 0 0 0) 37 (b := w.heap.size + 1) (by simp)).alloc (.cells (refA 0 0 0) 56)).alloc (.cells #[.int .i64 4, .int .i64 5, .int .i64 7, .int .i64 6, .int .i64 3] 28)
  have b3 := (blk_at ((w.alloc (.cells (actA a) 49)).alloc (.cells (ansA 0 0 0) 37)) (refA 0 0 0) 56 (b := w.heap.size + 1 + 1) (by simp)).alloc (.cells #[.int .i64 4, .int .i64 5, .int .i64 7, .int .i64 6, .int .i64 3] 28)
  have b4 := blk_at (((w.alloc (.cells (actA a) 49)).alloc (.cells (ansA 0 0 0) 37)).alloc (.cells (refA 0 0 0) 56)) #[.int .i64 4, .int .i64 5, .int .i64 7, .int .i64 6, .int .i64 3] 28 (b := w.heap.size + 1 + 1 + 1) (by simp)
  have hbw : Below w.heap.size w ((((w.alloc (.cells (actA a) 49)).alloc (.cells (ansA 0 0 0) 37)).alloc (.cells (refA 0 0 0) 56)).alloc (.cells #[.int .i64 4, .int .i64 5, .int .i64 7, .int .i64 6, .int .i64 3] 28)) := ((((Below.refl _ _).alloc (Nat.le_refl _) _).alloc (by simp) _).alloc (by simp; omega) _).alloc (by simp; omega) _
  obtain ⟨W2, hW2⟩ : ∃ W2, (((w.alloc (.cells (actA a) 49)).alloc (.cells (ansA 0 0 0) 37)).alloc (.cells (refA 0 0 0) 56)).alloc (.cells #[.int .i64 4, .int .i64 5, .int .i64 7, .int .i64 6, .int .i64 3] 28) = W2 := ⟨_, rfl⟩
  rw [hW2] at b1 b2 b3 b4 hbw
  have HZ := Lib.hid (show W2.heap.size = w.heap.size + 1 + 1 + 1 + 1 from by rw [← hW2]; simp)
  have c6 : W2.cell? ⟨w.heap.size, 6, none⟩ = some (.int .i64 a.kind) := b1.cell 6
  have c7 : W2.cell? ⟨w.heap.size, 7, none⟩ = some (.int .i64 a.id) := b1.cell 7
  have c8 : W2.cell? ⟨w.heap.size, 8, none⟩ = some (.int .u8 a.code) := b1.cell 8
  have cm : W2.cell? ⟨w.heap.size + 1 + 1 + 1, m, none⟩ = some (.int .i64 (ansK (m : Int))) := by
    rw [b4.cell m]
    match m, hm5 with
    | 0, _ => rfl
    | 1, _ => rfl
    | 2, _ => rfl
    | 3, _ => rfl
    | 4, _ => rfl
  rw [hm]
  obtain ⟨K, hK⟩ : ∃ K : Int, ansK (m : Int) = K := ⟨_, rfl⟩
  rw [hK] at cm ⊢
  have hmI : (m : Int) < 5 := by omega
  unfold ansA refA at hW2
  have B1 := Lib.hid b1; have B2 := Lib.hid b2; have B3 := Lib.hid b3; have HBW := Lib.hid hbw; have HK := Lib.hid hK
  clear b1 b2 b3 b4 hbw hK hk0 hk1
  go_enter Try.func11, Try.ntmps11
  go_wp2_with fail
  have s0 : (fun X : World => X.cell? ⟨w.heap.size, 7, none⟩ = some (.int .i64 a.id) ∧ X.cell? ⟨w.heap.size, 8, none⟩ = some (.int .u8 a.code)) W2.drew := ⟨c7, c8⟩
  refine wp_region_held (S := fun X : World => X.cell? ⟨w.heap.size, 7, none⟩ = some (.int .i64 a.id) ∧ X.cell? ⟨w.heap.size, 8, none⟩ = some (.int .u8 a.code)) (by kernel_rfl) ?_
  change wpAnyH _ _ _ _ _ _ _ _ W2.drew
  refine' wpAnyH_takeD (i := 0) (d := 12) (v := ?v0) (hi := ?hi0) ?hd0 (by kernel_rfl) (by kernel_rfl) (by kernel_rfl) (fun _ _ _ h => h) (Or.inl ⟨?hw0, ?hy0⟩) s0 ?rest0
  case hi0 => (simp only [List.getElem?_toArray, List.getElem?_cons_succ, List.getElem?_cons_zero]; rfl)
  case hd0 => rfl
  case hw0 => rfl
  case hy0 => (intro W hW; (try dsimp only at hW); (try obtain ⟨hWa, hWb⟩ := hW); go_simp; (try with_reducible rfl))
  simp only [Act.put, List.setIfInBounds_toArray, List.set_cons_succ, List.set_cons_zero]
  refine' wpAnyH_takeD (i := 1) (d := 13) (v := ?v1) (hi := ?hi1) ?hd1 (by kernel_rfl) (by kernel_rfl) (by kernel_rfl) (fun _ _ _ h => h) (Or.inl ⟨?hw1, ?hy1⟩) s0 ?rest1
  case hi1 => (simp only [List.getElem?_toArray, List.getElem?_cons_succ, List.getElem?_cons_zero]; rfl)
  case hd1 => rfl
  case hw1 => rfl
  case hy1 => (intro W hW; (try dsimp only at hW); (try obtain ⟨hWa, hWb⟩ := hW); go_simp; (try with_reducible rfl))
  simp only [Act.put, List.setIfInBounds_toArray, List.set_cons_succ, List.set_cons_zero]
  refine' wpAnyH_takeD (i := 2) (d := 14) (v := ?v2) (hi := ?hi2) ?hd2 (by kernel_rfl) (by kernel_rfl) (by kernel_rfl) (fun _ _ _ h => h) (Or.inl ⟨?hw2, ?hy2⟩) s0 ?rest2
  case hi2 => (simp only [List.getElem?_toArray, List.getElem?_cons_succ, List.getElem?_cons_zero]; rfl)
  case hd2 => rfl
  case hw2 => rfl
  case hy2 => (intro W hW; (try dsimp only at hW); (try obtain ⟨hWa, hWb⟩ := hW); go_simp; (try with_reducible rfl))
  simp only [Act.put, List.setIfInBounds_toArray, List.set_cons_succ, List.set_cons_zero]
  refine' wpAnyH_takeD (i := 3) (d := 15) (v := ?v3) (hi := ?hi3) ?hd3 (by kernel_rfl) (by kernel_rfl) (by kernel_rfl) (fun _ _ _ h => h) (Or.inl ⟨?hw3, ?hy3⟩) s0 ?rest3
  case hi3 => (simp only [List.getElem?_toArray, List.getElem?_cons_succ, List.getElem?_cons_zero]; rfl)
  case hd3 => rfl
  case hw3 => rfl
  case hy3 => (intro W hW; (try dsimp only at hW); (try obtain ⟨hWa, hWb⟩ := hW); go_simp; (try with_reducible rfl))
  simp only [Act.put, List.setIfInBounds_toArray, List.set_cons_succ, List.set_cons_zero]
  refine' wpAnyH_takeD (i := 4) (d := 16) (v := ?v4) (hi := ?hi4) ?hd4 (by kernel_rfl) (by kernel_rfl) (by kernel_rfl) (fun _ _ _ h => h) (Or.inl ⟨?hw4, ?hy4⟩) s0 ?rest4
  case hi4 => (simp only [List.getElem?_toArray, List.getElem?_cons_succ, List.getElem?_cons_zero]; rfl)
  case hd4 => rfl
  case hw4 => rfl
  case hy4 => (intro W hW; (try dsimp only at hW); (try obtain ⟨hWa, hWb⟩ := hW); go_simp; (try with_reducible rfl))
  simp only [Act.put, List.setIfInBounds_toArray, List.set_cons_succ, List.set_cons_zero]
  refine' wpAnyH_takeD (i := 5) (d := 17) (v := ?v5) (hi := ?hi5) ?hd5 (by kernel_rfl) (by kernel_rfl) (by kernel_rfl) (fun _ _ _ h => h) (Or.inl ⟨?hw5, ?hy5⟩) s0 ?rest5
  case hi5 => (simp only [List.getElem?_toArray, List.getElem?_cons_succ, List.getElem?_cons_zero]; rfl)
  case hd5 => rfl
  case hw5 => rfl
  case hy5 => (intro W hW; (try dsimp only at hW); (try obtain ⟨hWa, hWb⟩ := hW); go_simp; (try with_reducible rfl))
  simp only [Act.put, List.setIfInBounds_toArray, List.set_cons_succ, List.set_cons_zero]
  refine' wpAnyH_takeD (i := 6) (d := 18) (v := ?v6) (hi := ?hi6) ?hd6 (by kernel_rfl) (by kernel_rfl) (by kernel_rfl) (fun _ _ _ h => h) (Or.inl ⟨?hw6, ?hy6⟩) s0 ?rest6
  case hi6 => (simp only [List.getElem?_toArray, List.getElem?_cons_succ, List.getElem?_cons_zero]; rfl)
  case hd6 => rfl
  case hw6 => rfl
  case hy6 => (intro W hW; (try dsimp only at hW); (try obtain ⟨hWa, hWb⟩ := hW); go_simp; (try with_reducible rfl))
  simp only [Act.put, List.setIfInBounds_toArray, List.set_cons_succ, List.set_cons_zero]
  refine' wpAnyH_takeD (i := 7) (d := 19) (v := ?v7) (hi := ?hi7) ?hd7 (by kernel_rfl) (by kernel_rfl) (by kernel_rfl) (fun _ _ _ h => h) (Or.inl ⟨?hw7, ?hy7⟩) s0 ?rest7
  case hi7 => (simp only [List.getElem?_toArray, List.getElem?_cons_succ, List.getElem?_cons_zero]; rfl)
  case hd7 => rfl
  case hw7 => rfl
  case hy7 => (intro W hW; (try dsimp only at hW); (try obtain ⟨hWa, hWb⟩ := hW); go_simp; (try with_reducible rfl))
  simp only [Act.put, List.setIfInBounds_toArray, List.set_cons_succ, List.set_cons_zero]
  refine' wpAnyH_takeD (i := 8) (d := 20) (v := ?v8) (hi := ?hi8) ?hd8 (by kernel_rfl) (by kernel_rfl) (by kernel_rfl) (fun _ _ _ h => h) (Or.inl ⟨?hw8, ?hy8⟩) s0 ?rest8
  case hi8 => (simp only [List.getElem?_toArray, List.getElem?_cons_succ, List.getElem?_cons_zero]; rfl)
  case hd8 => rfl
  case hw8 => rfl
  case hy8 => (intro W hW; (try dsimp only at hW); (try obtain ⟨hWa, hWb⟩ := hW); go_simp; (try with_reducible rfl))
  simp only [Act.put, List.setIfInBounds_toArray, List.set_cons_succ, List.set_cons_zero]
  refine' wpAnyH_takeD (i := 9) (d := 21) (v := ?v9) (hi := ?hi9) ?hd9 (by kernel_rfl) (by kernel_rfl) (by kernel_rfl) (fun _ _ _ h => h) (Or.inl ⟨?hw9, ?hy9⟩) s0 ?rest9
  case hi9 => (simp only [List.getElem?_toArray, List.getElem?_cons_succ, List.getElem?_cons_zero]; rfl)
  case hd9 => rfl
  case hw9 => rfl
  case hy9 => (intro W hW; (try dsimp only at hW); (try obtain ⟨hWa, hWb⟩ := hW); go_simp; (try with_reducible rfl))
  simp only [Act.put, List.setIfInBounds_toArray, List.set_cons_succ, List.set_cons_zero]
  refine' wpAnyH_takeD (i := 10) (d := 22) (v := ?v10) (hi := ?hi10) ?hd10 (by kernel_rfl) (by kernel_rfl) (by kernel_rfl) (fun _ _ _ h => h) (Or.inl ⟨?hw10, ?hy10⟩) s0 ?rest10
  case hi10 => (simp only [List.getElem?_toArray, List.getElem?_cons_succ, List.getElem?_cons_zero]; rfl)
  case hd10 => rfl
  case hw10 => rfl
  case hy10 => (intro W hW; (try dsimp only at hW); (try obtain ⟨hWa, hWb⟩ := hW); go_simp; (try with_reducible rfl))
  simp only [Act.put, List.setIfInBounds_toArray, List.set_cons_succ, List.set_cons_zero]
  refine' wpAnyH_takeD (i := 11) (d := 23) (v := ?v11) (hi := ?hi11) ?hd11 (by kernel_rfl) (by kernel_rfl) (by kernel_rfl) (fun _ _ _ h => h) (Or.inl ⟨?hw11, ?hy11⟩) s0 ?rest11
  case hi11 => (simp only [List.getElem?_toArray, List.getElem?_cons_succ, List.getElem?_cons_zero]; rfl)
  case hd11 => rfl
  case hw11 => rfl
  case hy11 => (intro W hW; (try dsimp only at hW); (try obtain ⟨hWa, hWb⟩ := hW); go_simp; (try with_reducible rfl))
  simp only [Act.put, List.setIfInBounds_toArray, List.set_cons_succ, List.set_cons_zero]
  refine' wpAnyH_takeD (i := 12) (d := 24) (v := ?v12) (hi := ?hi12) ?hd12 (by kernel_rfl) (by kernel_rfl) (by kernel_rfl) (fun _ _ _ h => h) (Or.inl ⟨?hw12, ?hy12⟩) s0 ?rest12
  case hi12 => (simp only [List.getElem?_toArray, List.getElem?_cons_succ, List.getElem?_cons_zero]; rfl)
  case hd12 => rfl
  case hw12 => rfl
  case hy12 => (intro W hW; (try dsimp only at hW); (try obtain ⟨hWa, hWb⟩ := hW); go_simp; (try with_reducible rfl))
  simp only [Act.put, List.setIfInBounds_toArray, List.set_cons_succ, List.set_cons_zero]
  have hwr : IntKind.i64.wrap a.code = a.code := by rw [IntKind.wrap_i64]; omega
  simp only [hwr]
  have s1 : (fun X : World => X.cell? ⟨w.heap.size, 7, none⟩ = some (.int .i64 a.id) ∧ X.cell? ⟨w.heap.size, 8, none⟩ = some (.int .u8 a.code)) (W2.drew.setRow (w.heap.size + 1) (ansA K a.id a.code)) := ⟨(cell_setRow_other _ _ _ _ (by show w.heap.size ≠ w.heap.size + 1; omega)).trans c7, (cell_setRow_other _ _ _ _ (by show w.heap.size ≠ w.heap.size + 1; omega)).trans c8⟩
  have s2 : (fun X : World => X.cell? ⟨w.heap.size, 7, none⟩ = some (.int .i64 a.id) ∧ X.cell? ⟨w.heap.size, 8, none⟩ = some (.int .u8 a.code)) ((W2.drew.setRow (w.heap.size + 1) (ansA K a.id a.code)).setRow (w.heap.size + 1 + 1) (refA K a.id a.code)) := ⟨(cell_setRow_other _ _ _ _ (by show w.heap.size ≠ w.heap.size + 1 + 1; omega)).trans s1.1, (cell_setRow_other _ _ _ _ (by show w.heap.size ≠ w.heap.size + 1 + 1; omega)).trans s1.2⟩
  have b2 : Blk W2.drew (w.heap.size + 1) (ansA 0 0 0) 37 := B2.out
  have b3 : Blk W2.drew (w.heap.size + 1 + 1) (refA 0 0 0) 56 := B3.out
  have d2 : Blk ((W2.drew.setRow (w.heap.size + 1) (ansA K a.id a.code)).setRow (w.heap.size + 1 + 1) (refA K a.id a.code)) (w.heap.size + 1) (ansA K a.id a.code) 37 := b2.setRow.setRow_other (by omega)
  have d3 : Blk ((W2.drew.setRow (w.heap.size + 1) (ansA K a.id a.code)).setRow (w.heap.size + 1 + 1) (refA K a.id a.code)) (w.heap.size + 1 + 1) (refA K a.id a.code) 56 := (b3.setRow_other (by omega)).setRow
  have bel : Below w.heap.size w ((W2.drew.setRow (w.heap.size + 1) (ansA K a.id a.code)).setRow (w.heap.size + 1 + 1) (refA K a.id a.code)) := below_setRow (below_setRow HBW.out.drew (by omega) _) (by omega) _
  refine wpAnyH_one (i := 13) (by kernel_rfl) ?_
  refine' wpOp_skip (w' := (W2.drew.setRow (w.heap.size + 1) (ansA K a.id a.code))) ?ho13 ?hg13 ?run13 ⟨s1, ?rest13⟩
  case ho13 => (simp only [List.getElem?_toArray, List.getElem?_cons_succ, List.getElem?_cons_zero]; rfl)
  case hg13 => rfl
  case run13 => exact run_store_row 37 (.tmp 2) (.tmp 17) rfl (w.heap.size + 1) (ansA K a.id a.code) rfl rfl 37 (ansA 0 0 0) b2 pk_size rfl (ans_one _ _ _)
  simp only [Act.put, List.setIfInBounds_toArray, List.set_cons_succ, List.set_cons_zero]
  refine wpAnyH_one (i := 14) (by kernel_rfl) ?_
  refine' wpOp_skip (w' := ((W2.drew.setRow (w.heap.size + 1) (ansA K a.id a.code)).setRow (w.heap.size + 1 + 1) (refA K a.id a.code))) ?ho14 ?hg14 ?run14 ⟨s2, ?rest14⟩
  case ho14 => (simp only [List.getElem?_toArray, List.getElem?_cons_succ, List.getElem?_cons_zero]; rfl)
  case hg14 => rfl
  case run14 => exact run_store_row 56 (.tmp 3) (.tmp 24) rfl (w.heap.size + 1 + 1) (refA K a.id a.code) rfl rfl 56 (refA 0 0 0) (b3.setRow_other (by omega)) rpk_size rfl (ref_one _ _ _)
  simp only [Act.put, List.setIfInBounds_toArray, List.set_cons_succ, List.set_cons_zero]
  refine wpAnyH_done (by kernel_rfl) ?_ _
  go_wp2
  refine bodyPost_ret (results_two_rows rfl _ _ _ _ _ _ _ _ _ _ rfl rfl d2 d3 Try.underlying37 rfl pk_size Try.underlying56 rfl rpk_size) rfl ⟨rfl, bel⟩
end Go.Proofs.Ytnclobnnnihpfaa
