/- TopicBack (for inputs of bulk at most 1048576): the law's walk. -/
import Derived.Test.YtjkpmccnieodjaaDoorLevelsLaw
import Derived.Test.YtjkpmccnieodjaaDoorTopicWakes
namespace Go.Proofs.YtjkpmccnieodjaaDoor
set_option linter.unusedVariables false
open Go.RowKit Pl Go.Shelf

theorem info_u8 : (Tryd.prog.info? 5).map (fun i => (i.zero, i.size, i.bytes)) = some (some (.int .u8 0), 1, 1) := by kernel_rfl
/-- A piece without its slashes. -/
def Pl.strip (x : Bs) : Bs := x.filter (· != 47)
theorem Pl.strip_take {x : Bs} {k : Nat} {b : UInt8} (h : x[k]? = some b) : strip (x.take (k + 1)) = if b = 47 then strip (x.take k) else strip (x.take k) ++ [b] := by
  unfold strip
  rw [List.take_add_one, h, List.filter_append]
  by_cases hb : b = 47
  · rw [if_pos hb, hb]; simp
  · rw [if_neg hb]; simp [hb]
theorem Pl.strip_clean (x : Bs) : (strip x).count 47 = 0 := by
  unfold strip
  rw [List.count_eq_zero]
  intro h
  simp at h
theorem Pl.strip_len (x : Bs) : (strip x).length ≤ x.length := List.length_filter_le _ _
def Pl.clB (ss : List ByteArray) : List ByteArray := ss.map fun x => mk (strip x.data.toList)
theorem Pl.clB_take {ss : List ByteArray} {k : Nat} {x : ByteArray} (h : ss[k]? = some x) : clB (ss.take (k + 1)) = clB (ss.take k) ++ [mk (strip x.data.toList)] := by
  unfold clB
  rw [List.take_add_one, h, List.map_append]
  rfl
theorem Pl.mk_size (l : Bs) : (mk l).size = l.length := by simp [mk, ByteArray.size]
theorem Pl.clB_bulk : ∀ ss : List ByteArray, bulkS (clB ss) ≤ bulkS ss
  | [] => Nat.le_refl _
  | x :: r => by
    have := clB_bulk r
    have h := strip_len x.data.toList
    have e : x.data.toList.length = x.size := rfl
    unfold clB at this ⊢
    rw [List.map_cons, bulkS_cons, bulkS_cons, mk_size]
    omega
theorem Pl.lev_clB {ss : List ByteArray} (h : 0 < ss.length) : (lev (jnB (clB ss))).map mk = clB ss := by
  unfold jnB
  rw [lev_jn]
  · rw [List.map_map]; exact List.map_id _
  · intro e
    have : ((clB ss).map (·.data.toList)).length = 0 := by rw [e]; rfl
    simp [clB] at this
    subst this
    simp at h
  · intro y hy
    obtain ⟨z, hz, rfl⟩ := List.mem_map.1 hy
    obtain ⟨x, _, rfl⟩ := List.mem_map.1 hz
    exact strip_clean _

theorem byte_val (b : UInt8) : Value.int .u8 (b.toNat : Int) = Value.int .u8 (b.toNat : Int) := rfl
theorem cells8_push (l : List UInt8) (b : UInt8) : cells8 l ++ [Value.int .u8 (b.toNat : Int)] = cells8 (l ++ [b]) := by simp [cells8]

theorem own_below {w w' : World} {base n size : Nat} {e : TypeId} {v : Value} {xs : List Value} (h : w.ownsRow base e size v n xs) (hb : Below w.heap.size w w') : w'.ownsRow base e size v n xs := by
  refine ⟨h.1, ?_⟩
  rcases h.2 with h0 | ⟨g, cap, cur, rfl, hg, hh, hrest⟩
  · exact .inl h0
  · exact .inr ⟨g, cap, cur, rfl, hg, (hb.block g (h.lt g rfl).2).trans hh, hrest⟩
theorem own_zero (w : World) (e : TypeId) : (w.alloc (.cells #[] e)).ownsRow w.heap.size e 1 (.slice (some ⟨w.heap.size, 0, none⟩) 0 0) 0 [] :=
  ⟨rfl, .inr ⟨w.heap.size, 0, #[], rfl, Nat.le_refl _, heap_alloc_new w _, Nat.le_refl _, Nat.zero_le _, rfl, rfl⟩⟩
theorem own_len {w : World} {base n : Nat} {e : TypeId} {v : Value} {xs : List Value} (h : w.ownsRow base e 1 v n xs) : ∃ a cap, v = .slice a n cap := by
  rcases h.2 with ⟨rfl, rfl⟩ | ⟨g, cap, cur, rfl, _⟩
  · exact ⟨none, 0, rfl⟩
  · exact ⟨_, cap, rfl⟩

set_option maxHeartbeats 2000000 in
theorem topicBack_walk (s : ByteArray) (hs : s.size ≤ 1048576) (v : Value) (ss : List ByteArray) (w : World) (h : Strs w v ss) (hu : bulkS ss ≤ 1048576) (hT : Tabs w) :
    Calls Tryd.prog 7 #[.string s, v] w fun e w' => e = .returned (.bool true) ∧ Below w.heap.size w w' := by
  obtain ⟨A, cap, rfl, hc1, hc2, h3⟩ := h
  have hl := bulk_len ss
  obtain ⟨n, hn⟩ : ∃ n, ss.length = n := ⟨_, rfl⟩
  have HT := Lib.hid hT
  rw [hn] at h3 hl hc1 ⊢
  obtain ⟨m, hm⟩ : ∃ m : Nat, min n 50 = m := ⟨_, rfl⟩
  have hm' : min (n : Int) 50 = (m : Int) := by omega
  have hmn : m ≤ n := by omega
  have hm50 : m ≤ 50 := by omega
  have hmn1 : (m : Int) ≤ n := by omega
  have hm0 : (0 : Int) ≤ (m : Int) := by omega
  have hmc : (m : Int) ≤ cap := by omega
  have hmax : cap ≤ 9223372036854775807 := hc2
  have H3 := Lib.hid h3
  have Hn := Lib.hid hn
  have hlv := lev_len_le s
  have hsl : s.data.toList.length = s.size := rfl
  have hjl : Hid ((jn (lev s.data.toList)) = s.data.toList) := Lib.hid (jn_lev _)
  have hjs : (jn (lev s.data.toList)).length ≤ 140737488355328 := by rw [hjl.out, hsl]; omega
  have Hsl := Lib.hid hsl
  obtain ⟨i0, hi, hz0, hz1, hz2⟩ := info_parts info_str
  obtain ⟨j0, ji, jz0, jz1, jz2⟩ := info_parts info_u8
  clear hm hn h3 hT hsl
  go_enter Tryd.func7, Tryd.ntmps7
  go_wp2_with fail
  refine (levels_any s _ (by omega)).mono ?_
  rintro e w1 ⟨rfl, hw1⟩
  have b1 : Below w.heap.size w w1 := by subst hw1; exact (Below.refl _ _).alloc (Nat.le_refl _) _
  have hg1 : w.heap.size < w1.heap.size := by subst hw1; simp
  have hcell1 : Hid (∀ (k : Nat) x, (lev s.data.toList)[k]? = some x → w1.cell? ⟨w.heap.size, k, none⟩ = some (strV x)) := Lib.hid fun k x hx => by
    subst hw1
    rw [World.cell?_alloc_mark]
    simp [hx]
  clear hw1
  go_wp2_with fail
  refine (join_at _ _ _ (lev s.data.toList) _ rfl hcell1.out hg1 (Nat.le_refl _) (by omega) hjs).mono ?_
  rintro e w2 ⟨rfl, b2⟩
  have c2 := b1.trans (b2.mono b1.size)
  have hse : (⟨(jn (lev s.data.toList)).toArray⟩ : ByteArray) = s := by rw [hjl.out]
  rw [hse]
  clear hse hjl hjs hcell1 b2 b1 hg1
  go_wp2
  go_loopw [5, 21] (fun c i wr => ∃ k : Nat, i = .int .i64 k ∧ k ≤ m ∧ wr.ownsRow w.heap.size 9 1 c k ((clB (ss.take k)).map Value.string) ∧ Below w.heap.size w wr) (fun _ i _ => m - (intOf i).toNat)
  case atStart => exact ⟨0, rfl, by omega, World.ownsRow_nil _ _ _ _, c2⟩
  case round =>
    obtain ⟨k, rfl, hk, hown, hbel⟩ := hrel
    by_cases hlt : k < m
    · obtain ⟨b, o, rfl, hb, hcx⟩ := H3.out (by omega)
      obtain ⟨x, hx⟩ : ∃ x, ss[k]? = some x := ⟨_, List.getElem?_eq_getElem (by rw [Hn.out]; omega)⟩
      have hcell : wr.cell? ⟨b, o + k, none⟩ = some (.string x) := (hbel.cell (p := ⟨b, o + k, none⟩) hb).trans (hcx k x hx)
      have hxb := bulk_mem (List.mem_of_getElem? hx)
      have Hx := Lib.hid hx
      clear hcx hx
      obtain ⟨wo, hwo⟩ : ∃ wo : World, wo = wr := ⟨_, rfl⟩
      subst hwo
      go_wp2
      go_loopw [8, 28] (fun y i wi => ∃ (j q : Nat) (L : List UInt8), i = .int .i64 j ∧ j ≤ x.size ∧ q = L.length ∧ q ≤ j ∧ wi.ownsRow wo.heap.size 5 1 y q (cells8 L) ∧ Hid (L = strip (x.data.toList.take j)) ∧ Below wo.heap.size wo wi) (fun _ i _ => x.size - (intOf i).toNat)
      case atStart => exact ⟨0, 0, [], rfl, by omega, rfl, Nat.le_refl _, own_zero wo _, Lib.hid rfl, (Below.refl _ _).alloc (Nat.le_refl _) _⟩
      case round =>
        obtain ⟨j, q, L, rfl, hj, hq, hqj, hrow, hL, hbi⟩ := hrel
        by_cases hjl : j < x.size
        · have hd := data_at x hjl
          have hst := strip_take hd
          by_cases h47 : x[j] = 47
          · have f1 : (((x[j]).toNat : Int) != 47) = false := by rw [h47]; rfl
            have f2 : (((x[j]).toNat : Int) == 47) = true := by rw [h47]; rfl
            have Hr := Lib.hid (show L = strip (x.data.toList.take (j + 1)) by rw [hst, if_pos h47]; exact hL.out)
            clear hst hd h47
            go_wp2
            go_roundw
            case rel => exact ⟨j + 1, q, L, by go_num, by omega, hq, by omega, hrow, Hr, hbi⟩
            case measure => simp [intOf]; omega
          · have f0 : ¬ ((x[j]).toNat : Int) = 47 := fun h => h47 (UInt8.toNat_inj.1 (by show x[j].toNat = 47; omega))
            have f1 : (((x[j]).toNat : Int) != 47) = true := by rw [bne_iff_ne]; exact f0
            have f2 : (((x[j]).toNat : Int) == 47) = false := beq_eq_false_iff_ne.2 f0
            have Hr := Lib.hid (show L ++ [x[j]] = strip (x.data.toList.take (j + 1)) by rw [hst, if_neg h47, ← hL.out])
            have hmx : q + 1 ≤ maxLen := by simp only [maxLen]; omega
            have hby : (q + 1) * 1 ≤ 140737488355328 := by omega
            clear hst hd h47 f0
            go_wp2_with (at_builtin; refine wpList_push (.tmp 35) (.tmp 39) 34 5 j0 (.int .u8 0) 1 rfl rfl Tryd.underlying34 ji jz0 jz1 jz2 rfl wo.heap.size _ q (cells8 L) (.int .u8 (x[j].toNat : Int)) rfl rfl hrow hbi hbi.size rfl hmx hby ?_; intro v' w3 hrow3 hbi3 hs3 hn3)
            go_wp2
            go_roundw
            case rel => exact ⟨j + 1, q + 1, L ++ [x[j]], by go_num, by omega, by rw [List.length_append, ← hq]; rfl, by omega, by rw [← cells8_push]; exact hrow3, Hr, hbi3⟩
            case measure => simp [intOf]; omega
        · have hL2 : Hid (L = strip x.data.toList) := Lib.hid (by
            have h := hL.out
            rw [List.take_of_length_le (by have : x.data.toList.length = x.size := rfl; omega)] at h
            exact h)
          have hconv := run_string_own (P := Tryd.prog) 34 9 5 wo.heap.size _ q L Tryd.underlying34 Tryd.underlying5 Tryd.underlying9 hrow
          have hown2 := own_below hown hbi
          have hbel2 := hbel.trans (hbi.mono hbel.size)
          have hmx : k + 1 ≤ maxLen := by simp only [maxLen]; omega
          have hby : (k + 1) * 16 ≤ 140737488355328 := by omega
          go_wp2_with (at_builtin; refine wpList_push (.tmp 42) (.tmp 45) 26 9 i0 (.string ⟨#[]⟩) 16 rfl rfl Tryd.underlying26 hi hz0 hz1 hz2 rfl w.heap.size _ k ((clB (ss.take k)).map Value.string) (.string ⟨L.toArray⟩) rfl rfl hown2 hbel2 hbel2.size rfl hmx hby ?_; intro v' w3 hown3 hbel3 hs3 hn3)
          clear hconv
          go_wp2
          go_roundw
          case rel => exact ⟨k + 1, by go_num, by omega, by rw [clB_take Hx.out, List.map_append, ← hL2.out]; exact hown3, hbel3⟩
          case measure => simp [intOf]; omega
    · obtain rfl : k = m := by omega
      obtain ⟨a5, c5, rfl⟩ := own_len hown
      have hrd : Rd wr (.slice a5 k c5) (clB (ss.take k)) := Rd.of_own hown (by simp [clB]; have := Hn.out; omega)
      have Hrd := Lib.hid hrd
      have hsz := bulk_take ss k
      have hsz2 := clB_bulk (ss.take k)
      have hjb := jnB_le (clB (ss.take k))
      have Htl : Hid ((ss.take k).length = k) := Lib.hid (by rw [List.length_take, Hn.out]; omega)
      clear hown hrd
      go_wp2_with fail
      refine (wakes_any _ (Lib.hid (HT.out.below hbel)).out).mono ?_
      rintro e w3 ⟨rfl, b3⟩
      have c3 := hbel.trans (b3.mono hbel.size)
      by_cases hk0 : k = 0
      · subst hk0
        go_wp2
        go_ret
        exact ⟨rfl, c3⟩
      · have hkp : 0 < k := by omega
        have hk0' : ((k : Int) == 0) = false := by rw [beq_eq_false_iff_ne]; omega
        clear hk0
        go_wp2_with fail
        refine (join_rd _ (clB (ss.take k)) _ (Hrd.out.below b3) (by omega)).mono ?_
        rintro e w4 ⟨rfl, b4⟩
        have c4 := c3.trans (b4.mono c3.size)
        go_wp2_with fail
        refine (levels_rd (mk (jnB (clB (ss.take k)))) _ (by rw [mk_size]; omega)).mono ?_
        rintro e w5 ⟨v5, rfl, r5, b5⟩
        have r5' : Rd w5 v5 (clB (ss.take k)) := by
          have h := lev_clB (ss := ss.take k) (by rw [Htl.out]; exact hkp)
          rw [← h]
          exact r5
        have c5 := c4.trans (b5.mono c4.size)
        have hll : (clB (ss.take k)).length ≤ 140737488351232 := by simp [clB]; omega
        go_wp2_with fail
        refine (equal_any v5 _ _ (clB (ss.take k)) _ r5' ((Hrd.out.below b3).below b4 |>.below b5) hll hll).mono ?_
        rintro e w6 ⟨rfl, b6⟩
        rw [decide_eq_true rfl]
        have c6 := c5.trans (b6.mono c5.size)
        go_wp2
        go_ret
        exact ⟨rfl, c6⟩
end Go.Proofs.YtjkpmccnieodjaaDoor
