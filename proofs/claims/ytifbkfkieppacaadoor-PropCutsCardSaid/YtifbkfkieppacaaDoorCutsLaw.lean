/- PropCuts: the law's walk. -/
import Derived.Test.YtifbkfkieppacaaDoorPutsLaw
import Derived.Test.YtifbkfkieppacaaDoorGetsLaw
import Derived.Test.YtifbkfkieppacaaDoorPropBackP
import Derived.ArgAppend
import Derived.IntWalk
namespace Go.Proofs.YtifbkfkieppacaaDoor
set_option linter.unusedVariables false
open Go.RowKit Pl Go.Shelf

theorem step_append_grows {P : Program} {w : World} {ops : Array Oper} {o : Oper} {a : Act} {K : Act → World → Prop} {Q : Exit → Act → World → Prop} {E : Prop}
    (hg : o.guard = none) (s x : Operand) (t : TypeId) (hop : o.op = Op.call { callee := Callee.builtin Builtin.append, args := #[s, x], argTypes := #[t, t] })
    (e : TypeId) (i : TypeInfo) (z : Value) (size bytes : Nat) (h1 : P.underlying t = some (.slice e)) (h2 : P.info? e = some i) (h3 : i.zero = some z) (h4 : i.size = size) (h5 : i.bytes = bytes) (h6 : z.cells.size = size) (h7 : 0 < size)
    (b : Addr) (n cap : Nat) (olds : List Value) (hs : a.eval s = .slice (some b) n cap) (hlo : olds.length = n * size) (holds : ∀ j u, olds[j]? = some u → w.cell? (b.add j) = some u)
    (ad : Addr) (m c : Nat) (news : List Value) (hx : a.eval x = .slice (some ad) m c) (hn : news.length = m * size) (hc : ∀ j u, news[j]? = some u → w.cell? (ad.add j) = some u)
    (hfull : cap < n + m) (b1 : n + m ≤ maxLen) (b2 : (n + m) * bytes ≤ 140737488355328)
    (hK : ∀ v' w', w'.ownsRow w.heap.size e size v' (n + m) (olds ++ news) → w.grownBy w' none → K (a.put o.dst v') w') :
    if Region.wanted o (yielded ops a.tmps) = true then Oper.wp P o a w K Q else E := by
  have hw : Region.wanted o (yielded ops a.tmps) = true := by simp [Region.wanted, hg]
  rw [if_pos hw]
  obtain ⟨v', w', hrun, r1, r2⟩ := run_append_arg_grows (P := P) w t o.type e i z size bytes h1 h2 h3 h4 h5 h6 h7 b n cap olds hlo holds ad m c news hn hc hfull b1 b2
  unfold Oper.wp
  simp [execOp, hop, resolve, invoke, builtin, hs, hx, hrun, Result.andThen]
  exact hK _ _ r1 r2
/-- Where a row of the call's own lies. -/
theorem own_addr {w : World} {base n m cap : Nat} {e : TypeId} {A : Option Addr} {xs : List Value} (h : w.ownsRow base e 4 (.slice A n cap) n xs) (hp : 0 < n) : ∃ g, A = some ⟨g, 0, none⟩ ∧ g < w.heap.size ∧ ∀ j, j < n * 4 → w.cell? ⟨g, j, none⟩ = xs[j]? := by
  rcases h.2 with ⟨hv, h0⟩ | ⟨g, cap', cur, hv, _, hh, hnc, _⟩
  · injection hv with _ h1; omega
  · injection hv with h1 _ h2
    subst h1 h2
    exact ⟨g, rfl, (h.lt g rfl).2, fun j hj => h.cellAt j hj⟩
abbrev S4o (X : World) (b k : Nat) (p : Pp) : Prop := X.cell? ⟨b, k * 4, none⟩ = some (.int .i64 p.id) ∧ X.cell? ⟨b, k * 4 + 1, none⟩ = some (.int .i64 p.n) ∧ X.cell? ⟨b, k * 4 + 2, none⟩ = some (.string p.s) ∧ X.cell? ⟨b, k * 4 + 3, none⟩ = some (.string p.t)
theorem holds_alloc {w : World} {g n : Nat} {xs : List Value} {o : Obj} (hcl : ∀ j, j < n * 4 → w.cell? ⟨g, j, none⟩ = xs[j]?) (hg : g < w.heap.size) (hxl : xs.length = n * 4) : ∀ j u, xs[j]? = some u → (w.alloc o).cell? ((⟨g, 0, none⟩ : Addr).add j) = some u := fun j u hu => by
  have hj : j < n * 4 := by rw [← hxl]; exact (List.getElem?_eq_some_iff.1 hu).1
  rw [Go.WideShapes.add_plain, Nat.zero_add, World.cell?_alloc_past _ _ _ hg, hcl j hj, hu]
theorem s4o_alloc {X : World} {g k : Nat} {p : Pp} {o : Obj} (h : S4o X g k p) (hg : g < X.heap.size) : S4o (X.alloc o) g k p :=
  ⟨(World.cell?_alloc_past _ _ _ hg).trans h.1, (World.cell?_alloc_past _ _ _ hg).trans h.2.1, (World.cell?_alloc_past _ _ _ hg).trans h.2.2.1, (World.cell?_alloc_past _ _ _ hg).trans h.2.2.2⟩
theorem s4o_block {X Y : World} {g k : Nat} {p : Pp} (h : S4o X g k p) (hb : Y.heap[g]? = X.heap[g]?) : S4o Y g k p :=
  ⟨(World.cell?_of_block (a := ⟨g, k * 4, none⟩) hb).trans h.1, (World.cell?_of_block (a := ⟨g, k * 4 + 1, none⟩) hb).trans h.2.1, (World.cell?_of_block (a := ⟨g, k * 4 + 2, none⟩) hb).trans h.2.2.1, (World.cell?_of_block (a := ⟨g, k * 4 + 3, none⟩) hb).trans h.2.2.2⟩
theorem s4o_alloc' {X : World} {g k : Nat} {p : Pp} {o : Obj} (h : S4o X g k p) (hg : g < X.heap.size) : S4o (X.alloc o).drew g k p := s4o_alloc h hg
set_option maxRecDepth 100000 in
set_option maxHeartbeats 4000000 in
theorem cuts_core (A : Option Addr) (n cap : Nat) (L : List Pp) (cut : Int) (w : World) (hn : L.length = n) (hc : n ≤ cap) (hcm : cap ≤ maxLen) (h : PRow w A L) (hz : ∀ p ∈ L, p.fits) (hA : (A = none ∧ cap = 0) ∨ ∃ a, A = some a) (hct : -9223372036854775808 ≤ cut ∧ cut ≤ 9223372036854775807) (hT : Tabs w) :
    Calls Tryd.prog 6 #[.slice A n cap, .int .i64 cut] w fun e w' => e = .returned (.bool true) ∧ Below w.heap.size w w' := by
  obtain ⟨M, hM⟩ : ∃ M, min n 80 = M := ⟨_, rfl⟩
  have hM80 : M ≤ 80 := by omega
  have CP := Lib.hid (props_any A n cap M L w hn hc hcm h hM hA)
  have hl : (L.take M).length = M := by rw [List.length_take]; omega
  obtain ⟨T, hT'⟩ : ∃ T, L.take M = T := ⟨_, rfl⟩
  have hzT : ∀ p ∈ T, p.fits := by rw [← hT']; exact fits_take hz
  rw [hT'] at CP hl
  have HL := Lib.hid hl
  have HZ := Lib.hid hzT
  have hbd := ppC_bd T
  obtain ⟨c, hcc⟩ : ∃ c, ppC T = c := ⟨_, rfl⟩
  obtain ⟨s, hs⟩ : ∃ s, ppS T = s := ⟨_, rfl⟩
  have CA : ∀ (A1 : Option Addr) (c1 : Nat) (X : World), M ≤ c1 → PRow X A1 T → Tabs X → Calls Tryd.prog 8 #[.slice A1 M c1] X fun e w' => e = .returned (.tuple #[.string s, .int .u8 c]) ∧ Below X.heap.size X w' := fun A1 c1 X h1 hp ht => by rw [← hs, ← hcc]; exact pput_any A1 M c1 T X hl h1 (by omega) hp hzT ht
  rw [hcc] at hbd
  obtain ⟨hb0, hb1⟩ := hbd
  have CA := Lib.hid CA
  have HT := Lib.hid hT
  have HC := Lib.hid hcc
  have HS := Lib.hid hs
  clear hn hc hcm h hA hM hl hT' hz hzT hcc hs hT
  by_cases h0 : c = 0
  · subst h0
    have hs1 : 1 ≤ s.size ∧ s.size ≤ 8389000 := by
      obtain ⟨e1, e2⟩ := pp_ok (L := T) (by intro x; have := (pp_long x).1; rw [HC.out] at this; cases this) (by have h := HC.out; unfold ppC at h; split at h; cases h; exact h)
      rw [← HS.out, e2, ByteArray.size_append, mk_size]
      have := put_small T T.length
      have h64 : ¬ 64 < T.length := by intro x; have := (pp_long x).1; rw [HC.out] at this; cases this
      obtain ⟨r, hr, _, _, _, hlr⟩ := enc_vb (n := (putK T T.length).size) (by omega) (by omega)
      omega
    obtain ⟨hs1, hs2⟩ := hs1
    obtain ⟨d, hd⟩ : ∃ d : Nat, max (0 : Int) cut = d := ⟨(max 0 cut).toNat, by omega⟩
    have hd2 : (d : Int) ≤ 9223372036854775807 := by omega
    have hq0 := Nat.mod_lt d (show 0 < s.size by omega)
    obtain ⟨q, hq⟩ : ∃ q, d % s.size = q := ⟨_, rfl⟩
    rw [hq] at hq0
    have hqI : (d : Int) % (s.size : Int) = (q : Int) := by rw [← hq]; simp
    have hq1 : (q : Int) ≤ (s.size : Int) := by omega
    have hsz0 : ((s.size : Int) == 0) = false := by rw [beq_eq_false_iff_ne]; omega
    have HG : Hid (getP (s.extract 0 q) 0 = ([], 0, 242)) := Lib.hid (by rw [← HS.out]; exact getP_cut HC.out (by rw [HS.out]; exact hq0))
    have CG : ∀ X : World, Tabs X → Calls Tryd.prog 11 #[.string (s.extract 0 q), .int .i64 0] X fun e w' => GetPost X w' e ([], 0, 242) := fun X ht => by rw [← HG.out]; exact pget_any _ 0 X (by rw [ByteArray.size_extract]; omega) (by decide) (by decide) ht
    have CG := Lib.hid CG
    go_enter Tryd.func6, Tryd.ntmps6
    go_wp2_with fail
    (with_reducible refine CP.out.mono ?_)
    rintro e w1 ⟨v1, v2, rfl, own1, own2, b1⟩
    obtain ⟨A1, c1, rfl, hc1, r1⟩ := own_prow own1 HL.out.symm
    have O1 := Lib.hid own1
    have B1 := Lib.hid b1
    have R1 := Lib.hid r1
    have HT1 := Lib.hid (HT.out.below b1)
    clear own1 own2 b1 r1
    go_wp2_with fail
    (with_reducible refine (CA.out _ _ _ hc1 R1.out HT1.out).mono ?_)
    rintro e w2 ⟨rfl, b2⟩
    have B2 := Lib.hid (B1.out.trans (b2.mono B1.out.size))
    have R1 := Lib.hid (R1.out.below b2)
    have O1 := Lib.hid (own_mod O1.out (Mod.of_below (S := fun _ => False) b2) (fun _ _ c => c))
    have HT2 := Lib.hid (HT1.out.below b2)
    clear b2
    go_wp2_with fail
    (with_reducible refine (pwakes_any _ HT2.out).mono ?_)
    rintro e w3 ⟨rfl, b3⟩
    have B3 := Lib.hid (B2.out.trans (b3.mono B2.out.size))
    have R1 := Lib.hid (R1.out.below b3)
    have O1 := Lib.hid (own_mod O1.out (Mod.of_below (S := fun _ => False) b3) (fun _ _ c => c))
    have HT3 := Lib.hid (HT2.out.below b3)
    clear b3
    by_cases hM0 : M = 0
    · subst hM0
      go_wp2_with fail
      (with_reducible refine (CG.out _ HT3.out).mono ?_)
      rintro e w4 ⟨v4, rfl, _, b4⟩
      go_wp2
      go_ret
      exact ⟨rfl, B3.out.trans (b4.mono B3.out.size)⟩
    · by_cases hM64 : 64 ≤ M
      · have hM1 : (64 : Int) ≤ (M : Int) := by omega
        have hM2 : ((M : Int) == 0) = false := by rw [beq_eq_false_iff_ne]; omega
        go_wp2_with fail
        (with_reducible refine (CG.out _ HT3.out).mono ?_)
        rintro e w4 ⟨v4, rfl, _, b4⟩
        go_wp2
        go_ret
        exact ⟨rfl, B3.out.trans (b4.mono B3.out.size)⟩
      · obtain ⟨k, rfl⟩ : ∃ k, M = k + 1 := ⟨M - 1, by omega⟩
        have hk1 : ¬ (64 : Int) ≤ (k : Int) + 1 := by omega
        have hk2 : ((k : Int) + 1 == 0) = false := by rw [beq_eq_false_iff_ne]; omega
        have hk3 : k + 1 < 64 := by omega
        obtain ⟨p, hp⟩ : ∃ p, T[k]? = some p := ⟨_, List.getElem?_eq_getElem (by rw [HL.out]; omega)⟩
        have hmore := ppC_more (L := T) (q := p) HC.out (by rw [HL.out]; exact hk3) (by rw [HL.out]; exact hp)
        have CQ : ∀ (A' : Option Addr) (c' : Nat) (X : World), k + 1 + 1 ≤ c' → PRow X A' (T ++ [p]) → Tabs X → Calls Tryd.prog 8 #[.slice A' (k + 1 + 1) c'] X fun e w' => e = .returned (.tuple #[.string (ppS (T ++ [p])), .int .u8 (if p.id = 38 then 0 else 130)]) ∧ Below X.heap.size X w' := fun A' c' X h1 hpr ht => by
          rw [← hmore]
          exact pput_any A' (k + 1 + 1) c' (T ++ [p]) X (by rw [List.length_append, HL.out]; rfl) h1 (by omega) hpr (fun r hr => by
            rcases List.mem_append.1 hr with hr | hr
            · exact HZ.out r hr
            · obtain rfl : r = p := by simpa using hr
              exact HZ.out r (List.mem_of_getElem? hp)) ht
        obtain ⟨s2, hs2'⟩ : ∃ x, ppS (T ++ [p]) = x := ⟨_, rfl⟩
        obtain ⟨cd, bb, hcd, fb1, fb2⟩ : ∃ (cd : Int) (bb : Bool), (if p.id = 38 then 0 else 130) = cd ∧ (cd == 130) = bb ∧ (p.id != 38) = bb := ⟨_, _, rfl, rfl, by
          by_cases c : p.id = 38
          · rw [if_pos c, c]; rfl
          · rw [if_neg c, bne, beq_eq_false_iff_ne.2 c]; rfl⟩
        rw [hs2', hcd] at CQ
        have fb3 : (bb == bb) = true := by simp
        have CQ := Lib.hid CQ
        have HP := Lib.hid hp
        clear hmore hs2' hcd hp hM0 hM64
        go_wp2_with fail
        (with_reducible refine (CG.out _ HT3.out).mono ?_)
        rintro e w4 ⟨v4, rfl, _, b4⟩
        have B4 := Lib.hid (B3.out.trans (b4.mono B3.out.size))
        have O1 := Lib.hid (own_mod O1.out (Mod.of_below (S := fun _ => False) b4) (fun _ _ c => c))
        have HT4 := Lib.hid (HT3.out.below b4)
        obtain ⟨g, rfl, hg, hcl⟩ := own_addr (m := 0) O1.out (by omega)
        have hat : ∀ j u, (ppA p).toList[j]? = some u → w4.cell? ⟨g, k * 4 + j, none⟩ = some u := fun j u hu => by
          have hj4 : j < 4 := (List.getElem?_eq_some_iff.1 hu).1
          rw [hcl (k * 4 + j) (by omega)]
          exact flat_at HP.out hu
        have s0 : S4o w4 g k p := ⟨hat 0 _ rfl, hat 1 _ rfl, hat 2 _ rfl, hat 3 _ rfl⟩
        have s1 : S4o w4.drew g k p := s0
        have SD := Lib.hid s1
        have HCL := Lib.hid hcl
        have HFL : Hid ((flat T).length = (k + 1) * 4) := Lib.hid (by rw [flat_len, HL.out])
        have hw1 : IntKind.i64.wrap (k : Int) = k := IntWalk.i64_in _ (by omega)
        have hgd : g < w4.drew.heap.size := hg
        have hI1 : (0 : Int) ≤ (k : Int) := by omega
        have hI2 : (k : Int) + 1 ≤ (c1 : Int) := by omega
        have hI3 : (k : Int) < (k : Int) + 1 := by omega
        have hI4 : (0 : Int) ≤ (k : Int) + 1 := by omega
        have hw2 : IntKind.i64.wrap ((k : Int) + 1 - 1) = k := by rw [show (k : Int) + 1 - 1 = k from by omega]; exact hw1
        have BD : Hid (Below w.heap.size w w4.drew) := Lib.hid B4.out.drew
        have TD : Hid (Tabs w4.drew) := Lib.hid HT4.out
        clear b4 hcl hat
        obtain ⟨i1, hi1, hi1z, hi1s, hi1b⟩ := info_parts info_p1
        go_wp2_with fail
        go_region_held3 (fun X => S4o X g k p) (first | (with_reducible assumption) | exact s0 | exact s1 | exact s4o_alloc' s0 hg | exact s4o_alloc s1 hgd | exact s4o_alloc s0 hg | exact y5 | exact y6) (first | ((refine step_append_grows (by rfl) (.tmp 68) (.tmp 75) 23 (by rfl) 39 i1 _ 4 48 Tryd.underlying23 hi1 hi1z hi1s hi1b rfl (by decide) ⟨g, 0, none⟩ (k + 1) (k + 1) (flat T) (by rfl) HFL.out (holds_alloc HCL.out hg HFL.out) ⟨w4.heap.size, 0, none⟩ 1 1 (ppA p).toList (by rfl) rfl (World.news_of_block (Blk.new w4 (ppA p) 39)) (by omega) (by unfold maxLen; omega) (by omega) ?_; intro v1 w5 own5 hg5; have hl5 : g < (w4.alloc (.cells (ppA p) 39)).heap.size := (by simp; omega); have y5 : S4o w5 g k p := s4o_block (s4o_alloc' (o := .cells (ppA p) 39) s0 hg) (hg5.block g hl5 (by simp)); have bw5 : Below w.heap.size w w5 := Below.grown ((B4.out.alloc B4.out.size (.cells (ppA p) 39)).drew) hg5 (Nat.le_trans B4.out.size (by simp)) (by simp); have gw5 : g < w5.heap.size := Nat.lt_of_lt_of_le hl5 hg5.size)) | (go_at_call 8; obtain ⟨A', c', rfl, hc', r5⟩ := own_prow (L := T ++ [p]) (by rw [← flat_snoc]; exact own5) (by rw [List.length_append, HL.out]; rfl); (with_reducible refine (CQ.out _ _ _ hc' r5 (HT.out.below bw5)).mono ?_); rintro e w6 ⟨rfl, b6⟩; have y6 : S4o w6 g k p := s4o_block y5 (b6.block g gw5)) | (fail))
        all_goals
          obtain ⟨z0, z1, z2, z3⟩ := y6
          have BW6 := Lib.hid (bw5.trans (b6.mono bw5.size))
          clear own5 hg5 bw5 b6 y5 r5
        all_goals go_wp2
        all_goals
          go_ret
          exact ⟨rfl, BW6.out⟩
  · have e0 : (c == 0) = false := beq_eq_false_iff_ne.2 h0
    have e1 : (c != 0) = true := by rw [bne, e0]; rfl
    clear h0
    go_enter Tryd.func6, Tryd.ntmps6
    go_wp2_with fail
    (with_reducible refine CP.out.mono ?_)
    rintro e w1 ⟨v1, v2, rfl, own1, own2, b1⟩
    obtain ⟨A1, c1, rfl, hc1, r1⟩ := own_prow own1 HL.out.symm
    have B1 := Lib.hid b1
    have R1 := Lib.hid r1
    have HT1 := Lib.hid (HT.out.below b1)
    clear own1 own2 b1 r1
    go_wp2_with fail
    (with_reducible refine (CA.out _ _ _ hc1 R1.out HT1.out).mono ?_)
    rintro e w2 ⟨rfl, b2⟩
    have B2 := Lib.hid (B1.out.trans (b2.mono B1.out.size))
    have HT2 := Lib.hid (HT1.out.below b2)
    clear b2
    go_wp2_with fail
    (with_reducible refine (pwakes_any _ HT2.out).mono ?_)
    rintro e w3 ⟨rfl, b3⟩
    have B3 := Lib.hid (B2.out.trans (b3.mono B2.out.size))
    have HT3 := Lib.hid (HT2.out.below b3)
    clear b3
    go_wp2_with fail
    (with_reducible refine (pwakes_any _ HT3.out).mono ?_)
    rintro e w4 ⟨rfl, b4⟩
    go_wp2
    go_ret
    exact ⟨rfl, B3.out.trans (b4.mono B3.out.size)⟩
theorem propCuts_walk (v : Value) (L : List Pp) (cut : Int) (hw : (Lit.int .i64 cut).wf = true) (w : World) (h : SPropZ w v L) (hT : Tabs w) :
    Calls Tryd.prog 6 #[v, .int .i64 cut] w fun e w' => e = .returned (.bool true) ∧ Below w.heap.size w w' := by
  rcases h with ⟨⟨rfl, rfl⟩ | ⟨a, cap, rfl, h1, h2, h3⟩, hz⟩
  · exact cuts_core none 0 0 [] cut w rfl (Nat.le_refl _) (by decide) (fun hp => absurd hp (by simp)) hz (.inl ⟨rfl, rfl⟩) (i64_bd hw) hT
  · exact cuts_core (some a) L.length cap L cut w rfl h1 h2 h3 hz (.inr ⟨a, rfl⟩) (i64_bd hw) hT
end Go.Proofs.YtifbkfkieppacaaDoor
