/- The walk of the laws' rules (layer 10). -/
import Derived.Test.YtdjiioidkgppjaaDoorRulesP
import Derived.Test.YtdjiioidkgppjaaDoorRemap3
import Derived.Deep.AppendLies
import Derived.Deep.RegionHeld3
namespace Go.Proofs.YtdjiioidkgppjaaDoor
set_option linter.unusedVariables false
open Go.RowKit Pl Go.Shelf

theorem own_below {w w' : World} {base n size : Nat} {e : TypeId} {v : Value} {xs : List Value} (h : w.ownsRow base e size v n xs) (hb : Below w.heap.size w w') : w'.ownsRow base e size v n xs := by
  refine ⟨h.1, ?_⟩
  rcases h.2 with h0 | ⟨g, cap, cur, rfl, hg, hh, hrest⟩
  · exact .inl h0
  · exact .inr ⟨g, cap, cur, rfl, hg, (hb.block g (h.lt g rfl).2).trans hh, hrest⟩
theorem heap_under {w : World} {C : Nat} {x o : Obj} (h : w.heap[C]? = some x) : (w.alloc o).heap[C]? = some x := by
  have hl := (Array.getElem?_eq_some_iff.1 h).1
  show (w.heap.push o)[C]? = _
  rw [Array.getElem?_push, if_neg (by omega)]
  exact h
theorem heap_new' {w : World} {C : Nat} {o : Obj} (h : C = w.heap.size) : (w.alloc o).heap[C]? = some o := by subst h; exact heap_alloc_new w o
/-- A row of another type than the one that was appended to is as it was. -/
theorem own_far {w w' : World} {base size size' n n' : Nat} {e e' : TypeId} {v v' : Value} {xs xs' : List Value} (h : w.ownsRow base e size v n xs) (h2 : w.ownsRow base e' size' v' n' xs') (he : e ≠ e') (hg : w.grownBy w' v'.ownBlock) : w'.ownsRow base e size v n xs := by
  refine ⟨h.1, ?_⟩
  rcases h.2 with h0 | ⟨g, cap, cur, rfl, hb, hh, hrest⟩
  · exact .inl h0
  · refine .inr ⟨g, cap, cur, rfl, hb, ?_, hrest⟩
    rw [hg.block g (h.lt g rfl).2 ?_]
    · exact hh
    · intro e0
      rcases h2.2 with ⟨rfl, _⟩ | ⟨g2, cap2, cur2, rfl, _, hh2, _⟩
      · cases e0
      · have : g = g2 := by simpa [Value.ownBlock] using e0
        subst this
        rw [hh] at hh2
        injection hh2 with hh2
        injection hh2 with _ h3 _
        exact he h3
theorem step_push5 {P : Program} {X : World} {ops : Array Oper} {o : Oper} {a : Act} {K : Act → World → Prop} {Q : Exit → Act → World → Prop} {E : Prop} (hgd : o.guard = none) (s x : Operand) (t e : TypeId)
    (ho : o.op = .call { callee := .builtin .append, args := #[s, x], argTypes := #[t, t] }) (i : TypeInfo) (z : Value)
    (ht : P.underlying t = some (.slice e)) (hi : P.info? e = some i) (hz : i.zero = some z) (hsize : i.size = 5) (hby : i.bytes = 64) (hzs : z.cells.size = 5)
    (base : Nat) (v : Value) (n : Nat) (xs : List Value) (p : Rl) (C : Nat) (hs : a.eval s = v) (hx : a.eval x = .slice (some ⟨C, 0, none⟩) 1 1)
    (hown : X.ownsRow base e 5 v n xs) (hb : X.heap[C]? = some (.cells (ruC p) e (0, 0))) (hbase : base ≤ X.heap.size) (hn : n ≤ 80)
    (h : ∀ v' w', w'.ownsRow base e 5 v' (n + 1) (xs ++ (ruC p).toList) → X.grownBy w' v.ownBlock → K (a.put o.dst v') w') :
    if Region.wanted o (yielded ops a.tmps) = true then Oper.wp P o a X K Q else E :=
  step_append_lies X hgd s x t ho base e i z 5 64 ht hi hz hsize hby hzs (by decide) v n xs hs hown ⟨C, 0, none⟩ 1 1 (ruC p).toList hx rfl (World.news_of_block hb)
    (by intro u hu; simp [ruC] at hu; rcases hu with rfl | rfl | rfl | rfl | rfl <;> rfl) (by decide) (by unfold maxLen; omega) (by omega) hbase _ rfl (fun g cap w' h1 h2 _ _ => h _ w' h1 h2)
theorem info_r1 : (Tryd.prog.info? 26).map (fun i => (i.zero, i.size, i.bytes)) = some (some (.agg #[.string ⟨#[]⟩, .int .i64 0, .int .i64 0, .string ⟨#[]⟩, .string ⟨#[]⟩]), 5, 64) := by kernel_rfl
theorem info_r2 : (Tryd.prog.info? 27).map (fun i => (i.zero, i.size, i.bytes)) = some (some (.agg #[.string ⟨#[]⟩, .int .i64 0, .int .i64 0, .string ⟨#[]⟩, .string ⟨#[]⟩]), 5, 64) := by kernel_rfl
abbrev S5r (X : World) (B : Nat) (p : Rl) : Prop := X.cell? ⟨B, 0, none⟩ = some (.string p.pat) ∧ X.cell? ⟨B, 1, none⟩ = some (.int .i64 p.dir) ∧ X.cell? ⟨B, 2, none⟩ = some (.int .i64 p.qos) ∧ X.cell? ⟨B, 3, none⟩ = some (.string p.loc) ∧ X.cell? ⟨B, 4, none⟩ = some (.string p.rem)
theorem s5r_kept {X Y : World} {B : Nat} {p : Rl} (h : S5r X B p) (e : ∀ i, Y.cell? ⟨B, i, none⟩ = X.cell? ⟨B, i, none⟩) : S5r Y B p :=
  ⟨(e 0).trans h.1, (e 1).trans h.2.1, (e 2).trans h.2.2.1, (e 3).trans h.2.2.2.1, (e 4).trans h.2.2.2.2⟩
theorem s5r_new {w : World} {p : Rl} {e : TypeId} : S5r (w.alloc (.cells (ruC p) e)) w.heap.size p :=
  ⟨World.cell?_alloc_at _ _ _ _ rfl, World.cell?_alloc_at _ _ _ _ rfl, World.cell?_alloc_at _ _ _ _ rfl, World.cell?_alloc_at _ _ _ _ rfl, World.cell?_alloc_at _ _ _ _ rfl⟩
theorem s5r_at {w : World} {B : Nat} {p : Rl} {e : TypeId} (h : B = w.heap.size) : S5r (w.alloc (.cells (ruC p) e)) B p := by subst h; exact s5r_new
abbrev S10r (X : World) (B C : Nat) (p : Rl) : Prop := (X.cell? ⟨B, 0, none⟩ = some (.string p.pat) ∧ X.cell? ⟨B, 1, none⟩ = some (.int .i64 p.dir) ∧ X.cell? ⟨B, 2, none⟩ = some (.int .i64 p.qos) ∧ X.cell? ⟨B, 3, none⟩ = some (.string p.loc) ∧ X.cell? ⟨B, 4, none⟩ = some (.string p.rem)) ∧
  (X.cell? ⟨C, 0, none⟩ = some (.string p.pat) ∧ X.cell? ⟨C, 1, none⟩ = some (.int .i64 p.dir) ∧ X.cell? ⟨C, 2, none⟩ = some (.int .i64 p.qos) ∧ X.cell? ⟨C, 3, none⟩ = some (.string p.loc) ∧ X.cell? ⟨C, 4, none⟩ = some (.string p.rem))
theorem s10r_alloc {X : World} {B C : Nat} {p : Rl} {o : Obj} (h : S10r X B C p) (hB : B < X.heap.size) (hC : C < X.heap.size) : S10r (X.alloc o) B C p :=
  ⟨s5r_kept h.1 fun _ => World.cell?_alloc_past _ _ _ hB, s5r_kept h.2 fun _ => World.cell?_alloc_past _ _ _ hC⟩
theorem s10r_grown {X Y : World} {B C : Nat} {p : Rl} {row : Option Nat} (h : S10r X B C p) (hB : B < X.heap.size) (hC : C < X.heap.size) (hg : X.grownBy Y row) (hr : ∀ g, row = some g → g < B ∧ g < C) : S10r Y B C p :=
  ⟨s5r_kept h.1 fun i => hg.cell_far ⟨B, i, none⟩ hB (fun e => by have := (hr B e.symm).1; omega), s5r_kept h.2 fun i => hg.cell_far ⟨C, i, none⟩ hC (fun e => by have := (hr C e.symm).2; omega)⟩
theorem flat5_take {L : List Rl} {k : Nat} {p : Rl} (hp : L[k]? = some p) : flat5 (L.take (k + 1)) = flat5 (L.take k) ++ (ruC p).toList := by
  rw [List.take_add_one, hp, flat5_snoc]; rfl

set_option maxHeartbeats 4000000 in
theorem rules_any (A : Option Addr) (n cap M : Nat) (L : List Rl) (w : World) (hn : L.length = n) (hc : n ≤ cap) (hcm : cap ≤ maxLen) (h : RRow w A L) (hz : ∀ r ∈ L, r.fits) (hM : min n 20 = M) (hA : (A = none ∧ cap = 0) ∨ ∃ a, A = some a) :
    Calls Tryd.prog 13 #[.slice A n cap] w fun e w' => ∃ v1 v2, e = .returned (.tuple #[v1, v2]) ∧ w'.ownsRow w.heap.size 26 5 v1 M (flat5 (L.take M)) ∧ w'.ownsRow w.heap.size 27 5 v2 M (flat5 (L.take M)) ∧ Below w.heap.size w w' := by
  have hMI : min (n : Int) 20 = (M : Int) := by omega
  have hMn : M ≤ n := by omega
  have hM80 : M ≤ 20 := by omega
  have hMc : M ≤ cap := by omega
  have hMcI : (M : Int) ≤ (cap : Int) := by omega
  have H := Lib.hid h
  have HN := Lib.hid hn
  have HZ := Lib.hid hz
  obtain ⟨i1, hi1, hi1z, hi1s, hi1b⟩ := info_parts info_r1
  obtain ⟨i2, hi2, hi2z, hi2s, hi2b⟩ := info_parts info_r2
  unfold maxLen at hcm
  clear h hn hM hz
  rcases hA with ⟨rfl, rfl⟩ | ⟨a, rfl⟩
  · obtain rfl : n = 0 := by omega
    obtain rfl : M = 0 := by omega
    have h080 : min (0 : Int) 20 = 0 := by decide
    clear hMI
    go_enter Tryd.func13, Tryd.ntmps13
    go_wp2
    go_loopw [4, 5, 16] (fun v1 v2 i wr => ∃ k : Nat, i = .int .i64 k ∧ k ≤ 0 ∧ wr.ownsRow w.heap.size 26 5 v1 k (flat5 (L.take k)) ∧ wr.ownsRow w.heap.size 27 5 v2 k (flat5 (L.take k)) ∧ Below w.heap.size w wr) (fun _ _ i _ => 0 - (intOf i).toNat)
    case atStart => exact ⟨0, rfl, by omega, World.ownsRow_nil _ _ _ _, World.ownsRow_nil _ _ _ _, Below.refl _ _⟩
    case round =>
      obtain ⟨k, rfl, hk, own1, own2, hbel⟩ := hrel
      by_cases hlt : k < 0
      · omega
      · obtain rfl : k = 0 := by omega
        go_wp2
        go_ret2
        exact ⟨_, _, rfl, own1, own2, hbel⟩
  · have hMI2 := hMI
    go_enter Tryd.func13, Tryd.ntmps13
    go_wp2
    go_loopw [4, 5, 16] (fun v1 v2 i wr => ∃ k : Nat, i = .int .i64 k ∧ k ≤ M ∧ wr.ownsRow w.heap.size 26 5 v1 k (flat5 (L.take k)) ∧ wr.ownsRow w.heap.size 27 5 v2 k (flat5 (L.take k)) ∧ Below w.heap.size w wr) (fun _ _ i _ => M - (intOf i).toNat)
    case atStart => exact ⟨0, rfl, by omega, World.ownsRow_nil _ _ _ _, World.ownsRow_nil _ _ _ _, Below.refl _ _⟩
    case round =>
      obtain ⟨k, rfl, hk, own1, own2, hbel⟩ := hrel
      by_cases hlt : k < M
      · obtain ⟨b, o, e0, hl, hcl⟩ := (H.out.below hbel) (by rw [HN.out]; omega)
        injection e0 with e0
        subst e0
        obtain ⟨p, hp⟩ : ∃ p, L[k]? = some p := ⟨_, List.getElem?_eq_getElem (by rw [HN.out]; omega)⟩
        obtain ⟨c0, c1, c2, c3, c4⟩ := hcl k p hp
        have hpf := Lib.hid (HZ.out p (List.mem_of_getElem? hp))
        have HP := Lib.hid hp
        have hkM : (k : Int) < (M : Int) := by omega
        have hB0 : Below wr.heap.size wr (wr.alloc (.cells (ruC p) 23)) := (Below.refl _ _).alloc (Nat.le_refl _) _
        obtain ⟨Y0, hY0⟩ : ∃ Y, wr.alloc (.cells (ruC p) 23) = Y := ⟨_, rfl⟩
        rw [hY0] at hB0
        have hz0 : wr.heap.size < Y0.heap.size := by rw [← hY0]; simp
        have HY0 := Lib.hid hY0
        clear hcl hp hY0
        unfold ruC at HY0
        go_wp2_with fail
        rw [HY0.out]
        refine (rule_any p Y0 hpf.out).mono ?_
        rintro e w0 ⟨rfl, b0⟩
        have own1 := own_below own1 (hB0.trans (b0.mono hB0.size))
        have own2 := own_below own2 (hB0.trans (b0.mono hB0.size))
        have hbel := hbel.trans ((hB0.trans (b0.mono hB0.size)).mono hbel.size)
        have hz00 : wr.heap.size < w0.heap.size := Nat.lt_of_lt_of_le hz0 b0.size
        have hlt1 : ∀ g, u4.ownBlock = some g → g < w0.heap.size := fun g hg => (own1.lt g hg).2
        have hlt2 : ∀ g, u5.ownBlock = some g → g < w0.heap.size := fun g hg => (own2.lt g hg).2
        unfold ruV
        go_upto_region 7 with fail
        have q1 := (own1.alloc (.cells (ruC p) 26)).alloc (.cells (ruC p) 27)
        have q2 := (own2.alloc (.cells (ruC p) 26)).alloc (.cells (ruC p) 27)
        have hB := (hbel.alloc hbel.size (.cells (ruC p) 26)).alloc (Nat.le_trans hbel.size (by simp)) (.cells (ruC p) 27)
        have hs0 : S10r ((w0.alloc (.cells (ruC p) 26)).alloc (.cells (ruC p) 27)) w0.heap.size (w0.heap.size + 1) p := by
          refine ⟨s5r_kept s5r_new fun i => World.cell?_alloc_past _ _ _ (by simp), ?_⟩
          exact s5r_at (by simp)
        have hsz : w0.heap.size + 2 = ((w0.alloc (.cells (ruC p) 26)).alloc (.cells (ruC p) 27)).heap.size := by simp
        change Code.wp _ _ _ _ ((w0.alloc (.cells (ruC p) 26)).alloc (.cells (ruC p) 27))
        obtain ⟨Y, hY⟩ : ∃ Y, (w0.alloc (.cells (ruC p) 26)).alloc (.cells (ruC p) 27) = Y := ⟨_, rfl⟩
        rw [hY] at hB q1 q2 hs0 hsz ⊢
        clear hY c0 c1 c2 c3 c4 HY0 hB0
        have hs1 : S10r Y.drew w0.heap.size (w0.heap.size + 1) p := hs0
        have d1 : Y.drew.ownsRow w.heap.size 26 5 u4 k (flat5 (L.take k)) := q1
        have d2 : Y.drew.ownsRow w.heap.size 27 5 u5 k (flat5 (L.take k)) := q2
        have hz1 : w.heap.size ≤ Y.heap.size := hB.size
        have hsdY : w0.heap.size < Y.heap.size := by omega
        have hsdY2 : w0.heap.size + 1 < Y.heap.size := by omega
        have hsd : w0.heap.size < Y.drew.heap.size := hsdY
        have hsd2 : w0.heap.size + 1 < Y.drew.heap.size := hsdY2
        go_region_held3 (fun X => S10r X w0.heap.size (w0.heap.size + 1) p) (first | (with_reducible assumption) | (exact s10r_alloc hs1 hsd hsd2) | (exact s10r_alloc (s10r_alloc hs1 hsd hsd2) (by first | omega | (simp; omega) | (simp; done)) (by first | omega | (simp; omega) | (simp; done))) | (exact s10r_alloc hsw hsz2 hsz3)) (first | ((refine step_push5 (by rfl) (.tmp 25) (.tmp 27) 36 26 (by rfl) i1 _ Tryd.underlying36 hi1 hi1z hi1s hi1b rfl w.heap.size u4 k (flat5 (L.take k)) p _ (by rfl) (by rfl) (by first | exact d1.alloc _ | exact (d1.alloc _).alloc _) (by first | exact heap_new' (by first | rfl | (simp; done)) | exact heap_under (heap_new' (by first | rfl | (simp; done))) | exact hbk _ _ (heap_new' (by first | rfl | (simp; done))) (by first | omega | (simp; omega) | (simp; done)) | exact hbk _ _ (heap_under (heap_new' (by first | rfl | (simp; done)))) (by first | omega | (simp; omega) | (simp; done))) (by first | omega | (simp; omega) | (simp; done)) (by omega) ?_; intro v1 w1 n1 hg1; have n2 : w1.ownsRow w.heap.size 27 5 u5 k (flat5 (L.take k)) := own_far (by first | exact d2.alloc _ | exact (d2.alloc _).alloc _) (by first | exact d1.alloc _ | exact (d1.alloc _).alloc _) (by decide) hg1; have hbk : ∀ C obj, _ → w0.heap.size ≤ C → w1.heap[C]? = some obj := fun C obj hC hl => (hg1.block C (Array.getElem?_eq_some_iff.1 hC).1 (fun e => absurd (hlt1 C e.symm) (by omega))).trans hC; have hw1 : Below w.heap.size w w1 := Below.grown (by first | exact (hB.drew.alloc (by simpa using hz1) _) | exact ((hB.drew.alloc (by simpa using hz1) _).alloc (by first | omega | (simp; omega) | (simp; done)) _)) hg1 (by first | omega | (simp; omega) | (simp; done)) (fun g hg => (d1.lt g hg).1); have hsw : S10r w1 w0.heap.size (w0.heap.size + 1) p := s10r_grown (by first | exact s10r_alloc hs1 hsd hsd2 | exact s10r_alloc (s10r_alloc hs1 hsd hsd2) (by first | omega | (simp; omega) | (simp; done)) (by first | omega | (simp; omega) | (simp; done))) (by first | omega | (simp; omega) | (simp; done)) (by first | omega | (simp; omega) | (simp; done)) hg1 (fun g hg => by have := hlt1 g hg; omega); have hsz2 : w0.heap.size < w1.heap.size := Nat.lt_of_lt_of_le (by first | omega | (simp; omega) | (simp; done)) hg1.size; have hsz3 : w0.heap.size + 1 < w1.heap.size := Nat.lt_of_lt_of_le (by first | omega | (simp; omega) | (simp; done)) hg1.size; have hz2 := hw1.size)) | ((refine step_push5 (by rfl) (.tmp 29) (.tmp 31) 37 27 (by rfl) i2 _ Tryd.underlying37 hi2 hi2z hi2s hi2b rfl w.heap.size u5 k (flat5 (L.take k)) p _ (by rfl) (by rfl) (by first | exact n2 | exact n2.alloc _) (by first | exact heap_new' (by first | rfl | (simp; done)) | exact heap_under (heap_new' (by first | rfl | (simp; done))) | exact hbk _ _ (heap_new' (by first | rfl | (simp; done))) (by first | omega | (simp; omega) | (simp; done)) | exact hbk _ _ (heap_under (heap_new' (by first | rfl | (simp; done)))) (by first | omega | (simp; omega) | (simp; done))) (by first | omega | (simp; omega) | (simp; done)) (by omega) ?_; intro v2 w2 m2 hg2; have m1 : w2.ownsRow w.heap.size 26 5 v1 (k + 1) _ := own_far (by first | exact n1 | exact n1.alloc _) (by first | exact n2 | exact n2.alloc _) (by decide) hg2; have hw2 : Below w.heap.size w w2 := Below.grown (by first | exact hw1 | exact hw1.alloc hz2 _) hg2 (by first | omega | (simp; omega) | (simp; done)) (fun g hg => (n2.lt g hg).1); have hsw2 : S10r w2 w0.heap.size (w0.heap.size + 1) p := s10r_grown (by first | exact hsw | exact s10r_alloc hsw hsz2 hsz3) (by first | exact hsz2 | (simp; omega)) (by first | exact hsz3 | (simp; omega)) hg2 (fun g hg => by have := hlt2 g hg; omega))))
        all_goals go_wp2
        all_goals
          go_roundw
          case rel => exact ⟨k + 1, by go_num, by omega, by rw [flat5_take HP.out]; exact m1, by rw [flat5_take HP.out]; exact m2, hw2⟩
          case measure => simp [intOf]; omega

      · have hkM : k = M := by omega
        subst hkM
        go_wp2
        go_ret2
        exact ⟨_, _, rfl, own1, own2, hbel⟩
end Go.Proofs.YtdjiioidkgppjaaDoor
