/- What rules make of a message; the walk of remap's Route. -/
import Derived.Test.YtdjiioidkgppjaaDoorRules
namespace Go.Proofs.YtdjiioidkgppjaaDoor
set_option linter.unusedVariables false
open Go.RowKit Pl Go.Shelf

structure Hp where
  i : Nat
  s : ByteArray
  q : Int
def hpA (p : Hp) : Array Value := #[.int .i64 p.i, .string p.s, .int .i64 p.q]
def flat3 (L : List Hp) : List Value := L.flatMap fun p => (hpA p).toList
theorem flat3_app (L M : List Hp) : flat3 (L ++ M) = flat3 L ++ flat3 M := by unfold flat3; simp
theorem flat3_one (p : Hp) : flat3 [p] = (hpA p).toList := by unfold flat3; simp
theorem flat3_len (L : List Hp) : (flat3 L).length = L.length * 3 := by
  induction L with
  | nil => rfl
  | cons p r ih =>
    show ((hpA p).toList ++ flat3 r).length = _
    rw [List.length_append, ih, List.length_cons]
    have : (hpA p).toList.length = 3 := rfl
    omega
theorem flat3_at {p : Hp} : ∀ {L : List Hp} {i : Nat} {j : Nat} {u : Value}, L[i]? = some p → (hpA p).toList[j]? = some u → (flat3 L)[i * 3 + j]? = some u
  | q :: r, 0, j, u, h, hj => by
    obtain rfl : q = p := by simpa using h
    have hl : (hpA q).toList.length = 3 := rfl
    have hlt : j < 3 := by rw [← hl]; exact (List.getElem?_eq_some_iff.1 hj).1
    show ((hpA q).toList ++ flat3 r)[0 * 3 + j]? = some u
    rw [Nat.zero_mul, Nat.zero_add, List.getElem?_append_left (by rw [hl]; exact hlt)]
    exact hj
  | q :: r, i + 1, j, u, h, hj => by
    have hl : (hpA q).toList.length = 3 := rfl
    show ((hpA q).toList ++ flat3 r)[(i + 1) * 3 + j]? = some u
    rw [List.getElem?_append_right (by rw [hl]; omega), hl, show (i + 1) * 3 + j - 3 = i * 3 + j from by omega]
    exact flat3_at (by simpa using h) hj
/-- A row of hops. -/
def HRow (w : World) (A : Option Addr) (L : List Hp) : Prop := 0 < L.length → ∃ b o, A = some ⟨b, o, none⟩ ∧ b < w.heap.size ∧ ∀ i p, L[i]? = some p → w.cell? ⟨b, o + i * 3, none⟩ = some (.int .i64 p.i) ∧ w.cell? ⟨b, o + i * 3 + 1, none⟩ = some (.string p.s) ∧ w.cell? ⟨b, o + i * 3 + 2, none⟩ = some (.int .i64 p.q)
theorem HRow.below {w w' : World} {A : Option Addr} {L : List Hp} (h : HRow w A L) (hb : Below w.heap.size w w') : HRow w' A L := fun hp => by
  obtain ⟨b, o, e, h1, h2⟩ := h hp
  refine ⟨b, o, e, Nat.lt_of_lt_of_le h1 hb.size, fun i p hx => ?_⟩
  obtain ⟨c0, c1, c2⟩ := h2 i p hx
  exact ⟨(hb.cell (p := ⟨b, o + i * 3, none⟩) h1).trans c0, (hb.cell (p := ⟨b, o + i * 3 + 1, none⟩) h1).trans c1, (hb.cell (p := ⟨b, o + i * 3 + 2, none⟩) h1).trans c2⟩
theorem own_hrow {w : World} {base m : Nat} {e : TypeId} {v : Value} {L : List Hp} (h : w.ownsRow base e 3 v m (flat3 L)) (hm : m = L.length) : ∃ A cap, v = .slice A m cap ∧ m ≤ cap ∧ HRow w A L := by
  subst hm
  rcases h.2 with ⟨rfl, h0⟩ | ⟨g, cap, cur, rfl, _, hh, hnc, _⟩
  · have : L.length = 0 := by have := flat3_len L; rw [h0] at this; simp at this; omega
    exact ⟨none, 0, by rw [this], by omega, fun hp => absurd hp (by omega)⟩
  · refine ⟨_, cap, rfl, hnc, fun _ => ⟨g, 0, rfl, (h.lt g rfl).2, fun k p hx => ?_⟩⟩
    have hk := (List.getElem?_eq_some_iff.1 hx).1
    have hc : ∀ j u, (hpA p).toList[j]? = some u → w.cell? ⟨g, 0 + k * 3 + j, none⟩ = some u := fun j u hj => by
      have hj4 : j < 3 := (List.getElem?_eq_some_iff.1 hj).1
      rw [Nat.zero_add, h.cellAt (k * 3 + j) (by omega)]
      exact flat3_at hx hj
    exact ⟨hc 0 _ rfl, hc 1 _ rfl, hc 2 _ rfl⟩

/-- What the first k rules make of a message. -/
def rteK (L : List Rl) (N : ByteArray) (q : Int) : Nat → List Hp
  | 0 => []
  | k + 1 => rteK L N q k ++ (match L[k]? with | some r => if (toRem r N).2 then [⟨k, (toRem r N).1, min q r.qos⟩] else [] | none => [])
theorem rte_succ {L : List Rl} {N : ByteArray} {q : Int} {k : Nat} {r : Rl} {x : ByteArray} {y : Bool} (h : L[k]? = some r) (ht : toRem r N = (x, y)) : rteK L N q (k + 1) = rteK L N q k ++ (if y then [⟨k, x, min q r.qos⟩] else []) := by
  show rteK L N q k ++ _ = _
  rw [h]
  simp only [ht]
theorem rte_len (L : List Rl) (N : ByteArray) (q : Int) : ∀ k, (rteK L N q k).length ≤ k
  | 0 => Nat.le_refl _
  | k + 1 => by
    show (rteK L N q k ++ _).length ≤ _
    rw [List.length_append]
    have := rte_len L N q k
    have h2 : (match L[k]? with | some r => if (toRem r N).2 then [(⟨k, (toRem r N).1, min q r.qos⟩ : Hp)] else [] | none => []).length ≤ 1 := by
      split
      · split <;> simp
      · simp
    omega
theorem rte_pre (L : List Rl) (N : ByteArray) (q : Int) (k : Nat) : ∀ d, ∃ t, rteK L N q (k + d) = rteK L N q k ++ t
  | 0 => ⟨[], by simp⟩
  | d + 1 => by
    obtain ⟨t, h⟩ := rte_pre L N q k d
    refine ⟨t ++ (match L[k + d]? with | some r => if (toRem r N).2 then [⟨k + d, (toRem r N).1, min q r.qos⟩] else [] | none => []), ?_⟩
    rw [← List.append_assoc, ← h]; rfl
theorem rte_at {L : List Rl} {N : ByteArray} {q : Int} {k M : Nat} {r : Rl} {x : ByteArray} (hk : k < M) (h : L[k]? = some r) (ht : toRem r N = (x, true)) : (rteK L N q M)[(rteK L N q k).length]? = some ⟨k, x, min q r.qos⟩ := by
  obtain ⟨t, e⟩ := rte_pre L N q (k + 1) (M - (k + 1))
  rw [show k + 1 + (M - (k + 1)) = M from by omega] at e
  rw [e, rte_succ h ht, if_pos rfl, List.append_assoc, List.getElem?_append_right (Nat.le_refl _), Nat.sub_self]
  rfl
theorem info_hop : (Tryd.prog.info? 45).map (fun i => (i.zero, i.size, i.bytes)) = some (some (.agg #[.int .i64 0, .string ⟨#[]⟩, .int .i64 0]), 3, 32) := by kernel_rfl
theorem wpList_push3 {P : Program} {X : World} {ops : Array Oper} {rest : List Oper} {o : Oper} {a : Act} {Q : Exit → Act → World → Prop} (s x : Operand) (t e : TypeId)
    (hgd : o.guard = none) (ho : o.op = .call { callee := .builtin .append, args := #[s, x], argTypes := #[t, t] }) (i : TypeInfo) (z : Value)
    (ht : P.underlying t = some (.slice e)) (hi : P.info? e = some i) (hz : i.zero = some z) (hsize : i.size = 3) (hby : i.bytes = 32) (hzs : z.cells.size = 3)
    (base : Nat) (v : Value) (n : Nat) (xs : List Value) (p : Hp) (hs : a.eval s = v) (hx : a.eval x = .slice (some ⟨X.heap.size, 0, none⟩) 1 1)
    (hown : X.ownsRow base e 3 v n xs) (hbase : base ≤ X.heap.size) (hn : n ≤ 80)
    (h : ∀ v' w', w'.ownsRow base e 3 v' (n + 1) (xs ++ (hpA p).toList) → Below base X w' → wpList P ops Q rest (a.put o.dst v') w') :
    wpList P ops Q (o :: rest) a (X.alloc (.cells #[.int .i64 p.i, .string p.s, .int .i64 p.q] e)) :=
  wpList_append_lies (X.alloc (.cells (hpA p) e)) hgd s x t ho base e i z 3 32 ht hi hz hsize hby hzs (by decide) v n xs hs (hown.alloc _) ⟨X.heap.size, 0, none⟩ 1 1 (hpA p).toList hx rfl (World.news_of_block (heap_alloc_new _ _))
    (by intro u hu; simp [hpA] at hu; rcases hu with rfl | rfl | rfl <;> rfl) (by decide) (by unfold maxLen; omega) (by omega) (by simp; omega) _ rfl
    (fun g cap w' h1 h2 _ _ => h _ w' h1 (((Below.refl base X).alloc hbase _).grown h2 (by simp; omega) (fun k hk => (hown.lt k hk).1)))

set_option maxHeartbeats 2000000 in
theorem route_any (A : Option Addr) (n cap : Nat) (L : List Rl) (N : ByteArray) (q : Int) (w : World) (hn : L.length = n) (hm : n ≤ 80) (h : RRow w A L) (hz : ∀ r ∈ L, r.fits) (hN : N.size ≤ 140737488351232) (hT : Tabs w) :
    Calls Tryd.prog 14 #[.slice A n cap, .string N, .int .i64 q] w fun e w' => ∃ v, e = .returned v ∧ w'.ownsRow w.heap.size 45 3 v (rteK L N q n).length (flat3 (rteK L N q n)) ∧ Below w.heap.size w w' := by
  have H := Lib.hid h
  have HN := Lib.hid hn
  have HZ := Lib.hid hz
  have HT := Lib.hid hT
  obtain ⟨i0, hi, hz0, hz1, hz2⟩ := info_parts info_hop
  clear h hn hz hT
  go_enter Tryd.func14, Tryd.ntmps14
  go_wp2
  go_loopw [7, 14] (fun v i wr => ∃ k : Nat, i = .int .i64 k ∧ k ≤ n ∧ wr.ownsRow w.heap.size 45 3 v (rteK L N q k).length (flat3 (rteK L N q k)) ∧ Below w.heap.size w wr) (fun _ i _ => n - (intOf i).toNat)
  case atStart => exact ⟨0, rfl, by omega, World.ownsRow_nil _ _ _ _, Below.refl _ _⟩
  case round =>
    obtain ⟨k, rfl, hk, own, hbel⟩ := hrel
    by_cases hlt : k < n
    · obtain ⟨b, o, rfl, hl, hc⟩ := (H.out.below hbel) (by rw [HN.out]; omega)
      obtain ⟨p, hp⟩ : ∃ x, L[k]? = some x := ⟨_, List.getElem?_eq_getElem (by rw [HN.out]; exact hlt)⟩
      obtain ⟨e1, e2, e3, e4, e5⟩ := hc k p hp
      have hpf := HZ.out p (List.mem_of_getElem? hp)
      obtain ⟨x, y, hxy⟩ : ∃ x y, toRem p N = (x, y) := ⟨_, _, rfl⟩
      have hS := rte_succ (q := q) hp hxy
      have hul := rte_len L N q k
      obtain ⟨R, hR⟩ : ∃ R, rteK L N q k = R := ⟨_, rfl⟩
      rw [hR] at own hS hul
      obtain ⟨m, hm1⟩ : ∃ m, R.length = m := ⟨_, rfl⟩
      rw [hm1] at own hul
      have HM := Lib.hid hm1
      have hS5 : S5r (wr.alloc (.cells (ruC p) 26)) wr.heap.size p := s5r_new
      have hB0 : Below wr.heap.size wr (wr.alloc (.cells (ruC p) 26)) := (Below.refl _ _).alloc (Nat.le_refl _) _
      have hzY : wr.heap.size < (wr.alloc (.cells (ruC p) 26)).heap.size := by simp
      have CT := toremote_any p N (wr.alloc (.cells (ruC p) 26)) hpf hN ((HT.out.below hbel).below hB0)
      rw [hxy] at CT
      unfold ruV at CT
      obtain ⟨Y, hY⟩ : ∃ Y, wr.alloc (.cells (ruC p) 26) = Y := ⟨_, rfl⟩
      rw [hY] at hS5 hB0 CT hzY
      have CT := Lib.hid CT
      have HY := Lib.hid hY
      have HS := Lib.hid hS
      unfold ruC at HY
      clear hc hp hR hm1 hxy hS hY hpf
      go_wp2_with fail
      rw [HY.out]
      refine CT.out.mono ?_
      rintro e w1 ⟨rfl, b1⟩
      have own1 := own_below own (hB0.trans (b1.mono hB0.size))
      have hb1 := hbel.trans ((hB0.trans (b1.mono hB0.size)).mono hbel.size)
      have hc2 : w1.cell? ⟨wr.heap.size, 2, none⟩ = some (.int .i64 p.qos) := (b1.cell (p := ⟨wr.heap.size, 2, none⟩) hzY).trans hS5.2.2.1
      clear hS5 hB0 b1 own e1 e2 e3 e4 e5 hzY
      cases y
      · go_wp2
        go_roundw
        case rel => exact ⟨k + 1, by go_num, by omega, by rw [show rteK L N q (k + 1) = R from HS.out.trans (List.append_nil R), HM.out]; exact own1, hb1⟩
        case measure => simp [intOf]; omega
      · go_wp2_with (at_builtin; refine wpList_push3 (.tmp 26) (.tmp 34) 40 45 rfl rfl i0 _ Tryd.underlying40 hi hz0 hz1 hz2 rfl w.heap.size _ m (flat3 R) ⟨k, x, min q p.qos⟩ rfl rfl own1 hb1.size (by omega) ?_; intro v' w5 hown5 hbel5)
        go_roundw
        case rel => exact ⟨k + 1, by go_num, by omega, by rw [show rteK L N q (k + 1) = R ++ [⟨k, x, min q p.qos⟩] from HS.out, List.length_append, flat3_app, flat3_one, HM.out]; exact hown5, hb1.trans hbel5⟩
        case measure => simp [intOf]; omega
    · have hkn : k = n := by omega
      subst hkn
      go_wp2
      go_ret
      exact ⟨_, rfl, own, hbel⟩
end Go.Proofs.YtdjiioidkgppjaaDoor
