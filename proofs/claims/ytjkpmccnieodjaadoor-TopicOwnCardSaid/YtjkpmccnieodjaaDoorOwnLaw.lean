/- TopicOwn: the law's walk. -/
import Derived.Test.YtjkpmccnieodjaaDoorTopicWakes
import Derived.Test.YtjkpmccnieodjaaDoorOwnPlain
import Derived.Deep.AppendLies
import Derived.ArgAppend
import Derived.Laws.OwnMore
namespace Go.Proofs.YtjkpmccnieodjaaDoor
set_option linter.unusedVariables false
open Go.RowKit Pl Go.Shelf

theorem own_bad (N : ByteArray) (hN : N.size ≤ 140737488351232) (O : ByteArray) (a : Int) (w : World) (hT : Tabs w) (h : nameB N = false) :
    Calls Tryd.prog 8 #[.string N, .string O, .int .i64 a] w fun e w' => e = .returned (.bool true) ∧ Below w.heap.size w w' := by
  have HT := Lib.hid hT
  have H1 := Lib.hid (nameC_bad h)
  have H2 := Lib.hid (show mtB ⟨#[97]⟩ N = false from other_match h)
  clear hT h
  go_enter Tryd.func8, Tryd.ntmps8
  go_wp2_with fail
  refine (checkname_any N _ (by omega) HT.out).mono ?_
  rintro e w1 ⟨rfl, b1⟩
  rw [H1.out]
  have HT1 : Hid (Tabs w1) := Lib.hid (HT.out.below b1)
  go_wp2_with fail
  refine (wakes_any _ HT1.out).mono ?_
  rintro e w2 ⟨rfl, b2⟩
  have c2 := b1.trans (b2.mono b1.size)
  have HT2 : Hid (Tabs w2) := Lib.hid (HT1.out.below b2)
  go_wp2_with fail
  refine (match_any _ N _ (by decide) (by omega) HT2.out).mono ?_
  rintro e w3 ⟨rfl, b3⟩
  rw [H2.out]
  have c3 := c2.trans (b3.mono c2.size)
  go_wp2
  go_ret
  exact ⟨rfl, c3⟩

set_option maxHeartbeats 2000000 in
theorem own_ok (N : ByteArray) (O : ByteArray) (hO : O.size ≤ 140737488351232) (a : Int) (h0 : -9223372036854775808 ≤ a) (h1 : a ≤ 9223372036854775807) (w : World) (hT : Tabs w) (h : nameB N = true) (o : Bool) (ho : decide (N = O) = o) :
    Calls Tryd.prog 8 #[.string N, .string O, .int .i64 a] w fun e w' => e = .returned (.bool true) ∧ Below w.heap.size w w' := by
  have HT := Lib.hid hT
  have H1 := Lib.hid (nameC_ok h)
  have H2 := Lib.hid (filtC_ok (name_filter h))
  have H3 := Lib.hid (show mtB N N = true by rw [own_match h]; simp)
  have H4 := Lib.hid (show mtB N O = o by rw [own_match h]; exact ho)
  have he : (N.toList == O.toList) = o := by
    rw [← ho, ByteArray.toList_eq, ByteArray.toList_eq, Bool.eq_iff_iff]
    simp only [beq_iff_eq, decide_eq_true_eq]
    constructor
    · intro h; exact ByteArray.ext (Array.toList_inj.1 h)
    · intro h; rw [h]
  have sN := szd_size (name_szd h)
  have hN0 := sN.1
  have hN1 := sN.2.1
  have nN := sN.2.2
  have pN := lev_pos N.data.toList
  have HN := Lib.hid h
  obtain ⟨L, hL⟩ : ∃ L, lev N.data.toList = L := ⟨_, rfl⟩
  obtain ⟨n, hn⟩ : ∃ n, L.length = n := ⟨_, rfl⟩
  rw [hL, hn] at nN pN
  obtain ⟨k, hk⟩ : ∃ k : Nat, (max 0 a) % (n : Int) = k := ⟨((max 0 a) % (n : Int)).toNat, by
    have := Int.emod_nonneg (max 0 a) (show (n : Int) ≠ 0 by omega)
    omega⟩
  have hkn : k < n := by
    have := Int.emod_lt_of_pos (max 0 a) (show (0 : Int) < n by omega)
    omega
  have hn0 : ((n : Int) == 0) = false := by rw [beq_eq_false_iff_ne]; omega
  have HL := Lib.hid hL
  have Hn := Lib.hid hn
  obtain ⟨i0, hi, hz0, hz1, hz2⟩ := info_parts info_str
  clear hT h ho sN hL hn
  cases o
  all_goals
    go_enter Tryd.func8, Tryd.ntmps8
    go_wp2_with fail
    refine (checkname_any N _ (by omega) HT.out).mono ?_
    rintro e w1 ⟨rfl, b1⟩
    rw [H1.out]
    have HT1 : Hid (Tabs w1) := Lib.hid (HT.out.below b1)
    go_wp2_with fail
    refine (levels_any N _ (by omega)).mono ?_
    rintro e w2 ⟨rfl, hw2⟩
    rw [HL.out] at hw2
    rw [HL.out, Hn.out]
    obtain ⟨g1, hg1⟩ : ∃ g, w1.heap.size = g := ⟨_, rfl⟩
    have hc1 : ∀ (k : Nat) x, L[k]? = some x → w2.cell? ⟨g1, k, none⟩ = some (strV x) := by
      intro k x hx
      subst hw2
      rw [← hg1, World.cell?_alloc_mark]
      simp [hx]
    have hs2 : g1 < w2.heap.size := by subst hw2; rw [← hg1]; simp
    have hsw : w.heap.size ≤ g1 := by rw [← hg1]; exact b1.size
    have c2 : Below w.heap.size w w2 := by subst hw2; exact b1.alloc b1.size _
    have b2 : Below w1.heap.size w1 w2 := by subst hw2; exact (Below.refl _ _).alloc (Nat.le_refl _) _
    have HT2 : Hid (Tabs w2) := Lib.hid (HT1.out.below b2)
    rw [hg1]
    clear hw2 hg1 b2
    have Hc1 := Lib.hid hc1
    clear hc1
    go_wp2_with fail
    refine (wakes_any _ HT2.out).mono ?_
    rintro e w3 ⟨rfl, b3⟩
    have c3 := c2.trans (b3.mono c2.size)
    have HT3 : Hid (Tabs w3) := Lib.hid (HT2.out.below b3)
    go_wp2_with fail
    refine (checkfilter_any N _ (by omega) HT3.out).mono ?_
    rintro e w4 ⟨rfl, b4⟩
    rw [H2.out]
    have c4 := c3.trans (b4.mono c3.size)
    have d4 := b3.trans (b4.mono b3.size)
    have HT4 : Hid (Tabs w4) := Lib.hid (HT3.out.below b4)
    go_wp2_with fail
    refine (match_any N N _ (by omega) (by omega) HT4.out).mono ?_
    rintro e w5 ⟨rfl, b5⟩
    rw [H3.out]
    have c5 := c4.trans (b5.mono c4.size)
    have d5 := d4.trans (b5.mono d4.size)
    have HT5 : Hid (Tabs w5) := Lib.hid (HT4.out.below b5)
    go_wp2_with fail
    refine (match_any N O _ (by omega) (by omega) HT5.out).mono ?_
    rintro e w6 ⟨rfl, b6⟩
    rw [H4.out]
    have c6 := c5.trans (b6.mono c5.size)
    have d6 := d5.trans (b6.mono d5.size)
    have HT6 : Hid (Tabs w6) := Lib.hid (HT5.out.below b6)
    have Hc6 : Hid (∀ (j : Nat) u, (L.map strV)[j]? = some u → w6.cell? ((⟨g1, 0, none⟩ : Addr).add j) = some u) := Lib.hid fun j u hu => by
      rw [show (⟨g1, 0, none⟩ : Addr).add j = ⟨g1, j, none⟩ from by unfold Addr.add; split <;> simp_all]
      rw [List.getElem?_map] at hu
      obtain ⟨y, hy, rfl⟩ := Option.map_eq_some_iff.1 hu
      exact (d6.cell (p := ⟨g1, j, none⟩) hs2).trans (Hc1.out j y hy)
    have hs6 : g1 < w6.heap.size := Nat.lt_of_lt_of_le hs2 d6.size
    clear b1 b3 b4 b5 b6 c2 c3 c4 c5 d4 d5 d6 Hc1 hs2
    obtain ⟨z, hz⟩ : ∃ z, L[k]? = some z := ⟨_, List.getElem?_eq_getElem (by rw [Hn.out]; exact hkn)⟩
    have Hz := Lib.hid hz
    clear hz
    have hb6 := c6.size
    have hown0 := World.ownsRow_nil (w := w6) w.heap.size 9 1
    have hmx : (0 : Nat) + n ≤ maxLen := by simp only [maxLen]; omega
    have hby : (0 + n) * 16 ≤ 140737488355328 := by omega
    have hll : (L.map strV).length = n * 1 := by rw [List.length_map, Hn.out, Nat.mul_one]
    have Hll := Lib.hid hll
    clear hll
    have hone : ∀ u ∈ L.map strV, u.oneCell' = true := fun u hu => by obtain ⟨y, _, rfl⟩ := List.mem_map.1 hu; rfl
    have Hone := Lib.hid hone
    clear hone
    go_wp2_with (at_builtin
                 refine wpList_append_lies _ rfl (.const (.slice none 0 0)) (.tmp 55) 26 rfl w.heap.size 9 i0 (.string ⟨#[]⟩) 1 16 Tryd.underlying26 hi hz0 hz1 hz2 rfl (by omega) (.slice none 0 0) 0 [] rfl hown0 ⟨g1, 0, none⟩ n n (L.map strV) rfl Hll.out Hc6.out Hone.out pN hmx hby hb6 w6.heap.size rfl ?_
                 intro g cap w7 hown hgrow hat hlt
                 rw [Nat.zero_add] at hown ⊢
                 have hcell : w7.cell? ⟨g, k, none⟩ = some (strV z) := by rw [hown.cellAt k (by omega), List.nil_append, List.getElem?_map, Hz.out]; rfl
                 have hfr : w7.frozen? ⟨g, k, none⟩ = false := hown.frozenAt k)
    obtain ⟨w8, hw8⟩ : ∃ w8, w7.setCell ⟨g, k, none⟩ (.string ⟨#[43]⟩) = w8 := ⟨_, rfl⟩
    have hst := hown.stored k (.string ⟨#[43]⟩)
    rw [hw8] at hst ⊢
    have hg6 : g = w6.heap.size := by
      rcases hat with h | h
      · simp [Value.ownBlock] at h
      · exact h
    have e7 : Below w6.heap.size w6 w7 := (Below.refl _ _).grown hgrow (Nat.le_refl _) (fun k hk => by simp [Value.ownBlock] at hk)
    have e8 : Below w6.heap.size w6 w8 := by rw [← hw8]; exact e7.setCell (by rw [hg6]; exact Nat.le_refl _) _
    have hg8 : g < w8.heap.size := by rw [← hw8]; simpa using hlt
    have c8 : Below w.heap.size w w8 := c6.trans (e8.mono hb6)
    have HT8 : Hid (Tabs w8) := Lib.hid (HT6.out.below e8)
    have hcells8 : ∀ (j : Nat) y, (L.set k [43])[j]? = some y → w8.cell? ⟨g, j, none⟩ = some (strV y) := fun j y hy => by
      have hj : j < n := by
        have := (List.getElem?_eq_some_iff.1 hy).1
        rw [List.length_set, Hn.out] at this
        exact this
      rw [hst.1.cellAt j (by omega), List.nil_append, show (Value.string ⟨#[43]⟩) = strV [43] from rfl, ← List.map_set, List.getElem?_map, hy]
      rfl
    have Hcells8 := Lib.hid hcells8
    have hcap8 : n ≤ cap := by
      rcases hst.1.2 with ⟨h', _⟩ | ⟨g', cap', cur, h', _, _, hnc, _⟩
      · simp at h'
      · simp only [Value.slice.injEq, Option.some.injEq, Addr.mk.injEq, and_true, true_and] at h'
        rw [h'.2]; exact hnc
    have hl8 : (L.set k [43]).length = n := by rw [List.length_set, Hn.out]
    have hj8 : (jn (L.set k [43])).length ≤ 65536 := by rw [← HL.out]; exact set_le HN.out k
    have Hl8 := Lib.hid hl8
    clear hcells8 hst hw8 hcell hfr hown hgrow hat hlt hl8 e7
    refine (join_at g n cap (L.set k [43]) _ Hl8.out Hcells8.out hg8 hcap8 (by omega) (by omega)).mono ?_
    rintro e w9 ⟨rfl, b9⟩
    obtain ⟨f, hf⟩ : ∃ f : ByteArray, (⟨(jn (L.set k [43])).toArray⟩ : ByteArray) = f := ⟨_, rfl⟩
    have hfs : f.size ≤ 65536 := by rw [← hf]; simpa [ByteArray.size] using hj8
    have Hm9 := Lib.hid (open_say (f := f) HN.out (k := k) (by rw [HL.out, Hn.out]; exact hkn) (by rw [HL.out]; exact hf.symm) hN0)
    rw [hf]
    clear hf hj8
    have c9 := c8.trans (b9.mono c8.size)
    have e9 := e8.trans (b9.mono e8.size)
    have HT9 : Hid (Tabs w9) := Lib.hid (HT8.out.below b9)
    go_wp2_with fail
    refine (match_any f N _ (by omega) (by omega) HT9.out).mono ?_
    rintro e w10 ⟨rfl, b10⟩
    rw [Hm9.out]
    have c10 := c9.trans (b10.mono c9.size)
    have e10 := e9.trans (b10.mono e9.size)
    have HT10 : Hid (Tabs w10) := Lib.hid (HT9.out.below b10)
    have Hc10 : Hid (∀ (j : Nat) u, ((L.take k).map strV)[j]? = some u → w10.cell? ((⟨g1, 0, none⟩ : Addr).add j) = some u) := Lib.hid fun j u hu => by
      have h1 : (L.map strV)[j]? = some u := by
        rw [List.getElem?_map, List.getElem?_take] at hu
        split at hu
        · rw [List.getElem?_map]; exact hu
        · cases hu
      exact (e10.cell (p := (⟨g1, 0, none⟩ : Addr).add j) (by unfold Addr.add; split <;> exact hs6)).trans (Hc6.out j u h1)
    have hs10 : g1 < w10.heap.size := Nat.lt_of_lt_of_le hs6 e10.size
    have hlt10 : ((L.take k).map strV).length = k * 1 := by rw [List.length_map, List.length_take, Hn.out]; omega
    have Hlt10 := Lib.hid hlt10
    have hj11 : (jn (L.take k ++ [[35]])).length ≤ 65536 := by rw [← HL.out]; exact take_le HN.out k
    obtain ⟨f2, hf2⟩ : ∃ f : ByteArray, (⟨(jn (L.take k ++ [[35]])).toArray⟩ : ByteArray) = f := ⟨_, rfl⟩
    have hfs2 : f2.size ≤ 65536 := by rw [← hf2]; simpa [ByteArray.size] using hj11
    have Hm12 := Lib.hid (rest_say (f := f2) HN.out (k := k) (by rw [HL.out, Hn.out]; exact hkn) (by rw [HL.out]; exact hf2.symm) hN0)
    have Hf2 := Lib.hid hf2
    have hb10 := c10.size
    clear hf2 hlt10 Hc6 hs6 Hcells8 b9 b10 c6 c8 c9 e8 e9 e10 hg8 hcap8 hg6 HT6 HT8 HT9
    have hkd : 0 < k ∨ (¬ 0 < k ∧ ((N[0].toNat : Int) == 36) = false ∧ ((N[0].toNat : Int) != 36) = true) ∨ (¬ 0 < k ∧ ((N[0].toNat : Int) == 36) = true ∧ ((N[0].toNat : Int) != 36) = false) := by
      unfold bne
      cases ((N[0].toNat : Int) == 36) <;> simp <;> omega
    have hone : ∀ u ∈ [Value.string ⟨#[35]⟩], u.oneCell' = true := fun u hu => by rw [List.mem_singleton.1 hu]; rfl
    have Hone2 := Lib.hid hone
    have hmx2 : k + 1 ≤ maxLen := by simp only [maxLen]; omega
    have hby2 : (k + 1) * 16 ≤ 140737488355328 := by omega
    have hold : ∀ b, (some (⟨g1, 0, none⟩ : Addr)) = some b → ∀ (j : Nat) u, ((L.take k).map strV)[j]? = some u → (w10.alloc (.cells #[.string ⟨#[35]⟩] 9)).cell? (b.add j) = some u := by
      rintro b h j u hu
      injection h with h
      subst h
      rw [World.cell?_alloc_lt _ _ _ (by unfold Addr.add; split <;> exact hs10)]
      exact Hc10.out j u hu
    have Hold := Lib.hid hold
    clear hone hold
    by_cases hf256 : f.size ≤ 256
    all_goals by_cases hf2256 : f2.size ≤ 256
    all_goals rcases hkd with hk0 | ⟨hk0, hd, hd'⟩ | ⟨hk0, hd, hd'⟩
    all_goals
      go_wp2_with (at_builtin
                   refine wpList_append_grows _ rfl (.tmp 83) (.tmp 84) 26 rfl 9 i0 (.string ⟨#[]⟩) 1 16 Tryd.underlying26 hi hz0 hz1 hz2 rfl (by omega) (some ⟨g1, 0, none⟩) k k ((L.take k).map strV) rfl (fun h => by cases h) Hlt10.out Hold.out ⟨w10.heap.size, 0, none⟩ 1 1 [.string ⟨#[35]⟩] rfl rfl (cell_one_new _ _ _) Hone2.out (by omega) hmx2 hby2 ?_
                   intro v' w11 hown11 hgrow11
                   obtain ⟨g', cap', hv, hbase11, hlt11⟩ := hown11.form (by omega)
                   rw [hv] at hown11 ⊢)
      have e11 : Below w10.heap.size w10 w11 := ((Below.refl _ _).alloc (Nat.le_refl _) _).grown hgrow11 (by simp) (fun k hk => by simp at hk)
      have c11 := c10.trans (e11.mono hb10)
      have HT11 : Hid (Tabs w11) := Lib.hid (HT10.out.below e11)
      have hcells11 : Hid (∀ (j : Nat) y, (L.take k ++ [[35]])[j]? = some y → w11.cell? ⟨g', j, none⟩ = some (strV y)) := Lib.hid fun j y hy => by
        have hj : j < k + 1 := by
          have := (List.getElem?_eq_some_iff.1 hy).1
          rw [List.length_append, List.length_take, Hn.out, List.length_singleton] at this
          omega
        rw [hown11.cellAt j (by omega), show [Value.string ⟨#[35]⟩] = [[35]].map strV from rfl, ← List.map_append, List.getElem?_map, hy]
        rfl
      have hcap11 : k + 1 ≤ cap' := by
        rcases hown11.2 with ⟨h', _⟩ | ⟨g', cap', cur, h', _, _, hnc, _⟩
        · simp at h'
        · simp only [Value.slice.injEq, Option.some.injEq, Addr.mk.injEq, and_true, true_and] at h'
          rw [h'.2]; exact hnc
      have hl11 : Hid ((L.take k ++ [[35]]).length = k + 1) := Lib.hid (by rw [List.length_append, List.length_take, Hn.out, List.length_singleton]; omega)
      clear hown11 hgrow11 hv e11
      refine (join_at g' (k + 1) cap' (L.take k ++ [[35]]) _ hl11.out hcells11.out hlt11 hcap11 (by omega) (by omega)).mono ?_
      rintro e w12 ⟨rfl, b12⟩
      rw [Hf2.out]
      have c12 := c11.trans (b12.mono c11.size)
      have HT12 : Hid (Tabs w12) := Lib.hid (HT11.out.below b12)
      go_wp2_with fail
      refine (match_any f2 N _ (by omega) (by omega) HT12.out).mono ?_
      rintro e w13 ⟨rfl, b13⟩
      rw [Hm12.out]
      have c13 := c12.trans (b13.mono c12.size)
      go_wp2
      go_ret
      exact ⟨rfl, c13⟩

theorem topicOwn_walk (N : ByteArray) (hN : N.size ≤ 140737488351232) (O : ByteArray) (hO : O.size ≤ 140737488351232) (a : Int) (ha : (Lit.int .i64 a).wf = true) (w : World) (hT : Tabs w) :
    Calls Tryd.prog 8 #[.string N, .string O, .int .i64 a] w fun e w' => e = .returned (.bool true) ∧ Below w.heap.size w w' := by
  have hb := i64_bd ha
  cases h : nameB N
  · exact own_bad N hN O a w hT h
  · exact own_ok N O hO a hb.1 hb.2 w hT h _ rfl
end Go.Proofs.YtjkpmccnieodjaaDoor
