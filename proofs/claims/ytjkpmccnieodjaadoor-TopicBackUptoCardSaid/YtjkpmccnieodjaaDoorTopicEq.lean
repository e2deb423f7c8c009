/- The walks of the laws' equal, of the document's Join, of topic.Join at every slice of strings. -/
import Derived.Test.YtjkpmccnieodjaaDoorTopicMatch
import Derived.Test.YtjkpmccnieodjaaDoorTopicRef
import Derived.Test.YtjkpmccnieodjaaDoorArgs
namespace Go.Proofs.YtjkpmccnieodjaaDoor
set_option linter.unusedVariables false
open Go.RowKit Pl Go.Shelf

/-- A slice of strings reads as a list. -/
def Rd (w : World) (v : Value) (ss : List ByteArray) : Prop :=
  ∃ A cap, v = .slice A ss.length cap ∧ (0 < ss.length → ∃ b o, A = some ⟨b, o, none⟩ ∧ b < w.heap.size ∧ ss.length ≤ cap ∧ ∀ i x, ss[i]? = some x → w.cell? ⟨b, o + i, none⟩ = some (.string x))
theorem Rd.below {w w' : World} {v : Value} {ss : List ByteArray} (h : Rd w v ss) (hb : Below w.heap.size w w') : Rd w' v ss := by
  obtain ⟨A, cap, rfl, h3⟩ := h
  refine ⟨A, cap, rfl, fun hp => ?_⟩
  obtain ⟨b, o, rfl, hl, h1, hc⟩ := h3 hp
  exact ⟨b, o, rfl, Nat.lt_of_lt_of_le hl hb.size, h1, fun i x hx => (hb.cell (p := ⟨b, o + i, none⟩) hl).trans (hc i x hx)⟩
theorem Strs.rd {w : World} {v : Value} {ss : List ByteArray} (h : Strs w v ss) : Rd w v ss := by
  obtain ⟨A, cap, rfl, h1, h2, h3⟩ := h
  refine ⟨A, cap, rfl, fun hp => ?_⟩
  obtain ⟨b, o, rfl, hl, hc⟩ := h3 hp
  exact ⟨b, o, rfl, hl, h1, hc⟩
def Pl.mk (x : Bs) : ByteArray := ⟨x.toArray⟩
theorem Row.rd {w : World} {v : Value} {L : List Bs} (h : Row w v L) : Rd w v (L.map mk) := by
  obtain ⟨g, cap, rfl, hc, hg, hx⟩ := h
  refine ⟨some ⟨g, 0, none⟩, cap, by rw [List.length_map], fun _ => ⟨g, 0, rfl, hg, by rw [List.length_map]; exact hc, fun i x h => ?_⟩⟩
  rw [List.getElem?_map] at h
  obtain ⟨y, hy, rfl⟩ := Option.map_eq_some_iff.1 h
  rw [Nat.zero_add]
  exact hx i y hy
theorem Rd.of_own {w : World} {base n : Nat} {e : TypeId} {v : Value} {ss : List ByteArray} (h : w.ownsRow base e 1 v n (ss.map Value.string)) (hn : n = ss.length) : Rd w v ss := by
  subst hn
  rcases h.2 with ⟨rfl, h0⟩ | ⟨g, cap, cur, rfl, _, hh, hnc, _⟩
  · exact ⟨none, 0, by rw [h0], fun hp => absurd hp (by omega)⟩
  · refine ⟨_, cap, rfl, fun _ => ⟨g, 0, rfl, (h.lt g rfl).2, hnc, fun k x hx => ?_⟩⟩
    have hk := (List.getElem?_eq_some_iff.1 hx).1
    rw [Nat.zero_add, h.cellAt k (by omega), List.getElem?_map, hx]; rfl

theorem Pl.take_eq {α : Type} {a b : List α} {k : Nat} {x : α} (h : a.take k = b.take k) (h1 : a[k]? = some x) (h2 : b[k]? = some x) : a.take (k + 1) = b.take (k + 1) := by
  rw [List.take_add_one, List.take_add_one, h, h1, h2]

set_option maxHeartbeats 400000 in
theorem equal_any (v1 v2 : Value) (a b : List ByteArray) (w : World) (h1 : Rd w v1 a) (h2 : Rd w v2 b) (ha : a.length ≤ 140737488351232) (hb : b.length ≤ 140737488351232) :
    Calls Tryd.prog 13 #[v1, v2] w fun e w' => e = .returned (.bool (decide (a = b))) ∧ Below w.heap.size w w' := by
  obtain ⟨A1, c1, rfl, s1⟩ := h1
  obtain ⟨A2, c2, rfl, s2⟩ := h2
  have S1 := Lib.hid s1
  have S2 := Lib.hid s2
  clear s1 s2
  obtain ⟨n, hn⟩ : ∃ n, a.length = n := ⟨_, rfl⟩
  obtain ⟨m, hm⟩ : ∃ m, b.length = m := ⟨_, rfl⟩
  rw [hn] at S1 ha ⊢
  rw [hm] at S2 hb ⊢
  by_cases hnm : n = m
  · have hnm' : ((n : Int) != (m : Int)) = false := by rw [hnm]; simp
    have hnm2 : ((n : Int) == (m : Int)) = true := by rw [hnm]; simp
    have Hnm := Lib.hid hnm
    have Hn := Lib.hid hn
    have Hm := Lib.hid hm
    clear hnm hn hm
    go_enter Tryd.func13, Tryd.ntmps13
    go_wp2
    go_loopw [5, 13] (fun _ i wr => ∃ k : Nat, i = .int .i64 k ∧ k ≤ n ∧ Hid (a.take k = b.take k) ∧ Hid (∀ p, wr.cell? p = w.cell? p) ∧ Below w.heap.size w wr) (fun _ i _ => n - (intOf i).toNat)
    case atStart => exact ⟨0, rfl, by omega, Lib.hid rfl, Lib.hid (fun _ => rfl), Below.refl _ _⟩
    case round =>
      obtain ⟨k, rfl, hk, hv, hcell, hbel⟩ := hrel
      by_cases hlt : k < n
      · have hkm : k < m := by have := Hnm.out; omega
        obtain ⟨b1, o1, rfl, hg1, _, hc1⟩ := S1.out (by omega)
        obtain ⟨b2, o2, rfl, hg2, _, hc2⟩ := S2.out (by omega)
        obtain ⟨x, hx⟩ : ∃ x, a[k]? = some x := ⟨_, List.getElem?_eq_getElem (by rw [Hn.out]; exact hlt)⟩
        obtain ⟨y, hy⟩ : ∃ y, b[k]? = some y := ⟨_, List.getElem?_eq_getElem (by rw [Hm.out]; exact hkm)⟩
        have e1 : wr.cell? ⟨b1, o1 + k, none⟩ = some (.string x) := (hcell.out _).trans (hc1 k x hx)
        have e2 : wr.cell? ⟨b2, o2 + k, none⟩ = some (.string y) := (hcell.out _).trans (hc2 k y hy)
        clear hc1 hc2
        by_cases hxy : x = y
        · have f1 : (x.toList == y.toList) = true := by rw [hxy]; simp
          have f2 : (x.toList != y.toList) = false := by rw [hxy]; simp
          have Hr := Lib.hid (take_eq hv.out hx (by rw [hxy]; exact hy))
          clear hx hy hxy
          go_wp2
          go_quiet (fail)
          go_wp2
          go_roundw
          case rel => exact ⟨k + 1, by go_num, by omega, Hr, Lib.hid (fun p => hcell.out p), ⟨hbel.os, hbel.tape, hbel.output, hbel.size, hbel.block⟩⟩
          case measure => simp [intOf]; omega
        · have hne : ¬ x.toList = y.toList := fun h => hxy (by
            rw [ByteArray.toList_eq, ByteArray.toList_eq] at h
            exact ByteArray.ext (Array.toList_inj.1 h))
          have f1 : (x.toList == y.toList) = false := beq_eq_false_iff_ne.2 hne
          have f2 : (x.toList != y.toList) = true := by unfold bne; rw [f1]; rfl
          have Hr := Lib.hid (show decide (a = b) = false by
            rw [decide_eq_false_iff_not]
            rintro rfl
            rw [hx] at hy
            exact hxy (Option.some.inj hy))
          clear hx hy hxy hne
          go_wp2
          go_quiet (fail)
          go_wp2
          go_ret
          exact ⟨ret_bool Hr.out.symm, ⟨hbel.os, hbel.tape, hbel.output, hbel.size, hbel.block⟩⟩
      · have Hr := Lib.hid (show decide (a = b) = true by
          rw [decide_eq_true_iff]
          have h := hv.out
          rw [List.take_of_length_le (by rw [Hn.out]; omega), List.take_of_length_le (by rw [Hm.out, ← Hnm.out]; omega)] at h
          exact h)
        go_wp2
        go_ret
        exact ⟨ret_bool Hr.out.symm, hbel⟩
  · have hnm' : ((n : Int) != (m : Int)) = true := by rw [bne_iff_ne]; omega
    have hnm2 : ((n : Int) == (m : Int)) = false := by rw [beq_eq_false_iff_ne]; omega
    have Hr := Lib.hid (show decide (a = b) = false by
      rw [decide_eq_false_iff_not]
      rintro rfl
      exact hnm (hn.symm.trans hm))
    clear hnm hn hm
    go_enter Tryd.func13, Tryd.ntmps13
    go_wp2
    go_ret
    exact ⟨ret_bool Hr.out.symm, Below.refl _ _⟩

/-- The pieces as one. -/
def Pl.jnB (ss : List ByteArray) : Bs := jn (ss.map (·.data.toList))
theorem Pl.jnB_le : ∀ ss : List ByteArray, (jnB ss).length ≤ bulkS ss
  | [] => Nat.zero_le _
  | [x] => by
    rw [bulkS_cons]
    show x.data.toList.length ≤ _
    have : x.data.toList.length = x.size := rfl
    omega
  | x :: y :: r => by
    have := jnB_le (y :: r)
    rw [bulkS_cons]
    unfold jnB at this ⊢
    rw [List.map_cons, jn_cons _ (by simp), List.length_append, List.length_cons]
    have : x.data.toList.length = x.size := rfl
    omega
theorem Pl.bulk_take : ∀ (ss : List ByteArray) (k : Nat), bulkS (ss.take k) ≤ bulkS ss
  | [], k => by simp
  | x :: r, 0 => Nat.zero_le _
  | x :: r, k + 1 => by
    have := bulk_take r k
    rw [List.take_succ_cons, bulkS_cons, bulkS_cons]; omega
theorem Pl.jnB_first (x : ByteArray) {ss : List ByteArray} (h : ss[0]? = some x) : jnB (ss.take 1) = x.data.toList := by
  cases ss with
  | nil => simp at h
  | cons y r => simp at h; subst h; rfl
theorem Pl.jnB_next (x : ByteArray) {ss : List ByteArray} {k : Nat} (hk : 0 < k) (h : ss[k]? = some x) : jnB (ss.take (k + 1)) = jnB (ss.take k) ++ 47 :: x.data.toList := by
  unfold jnB
  rw [List.take_add_one, h, List.map_append]
  exact jn_snoc (by
    intro e
    have := (List.getElem?_eq_some_iff.1 h).1
    have h2 : ((ss.take k).map fun x => x.data.toList).length = 0 := by rw [e]; rfl
    rw [List.length_map, List.length_take] at h2
    omega) _

set_option maxHeartbeats 400000 in
theorem refjoin_any (v : Value) (ss : List ByteArray) (w : World) (h : Rd w v ss) (hb : bulkS ss ≤ 4294967296) :
    Calls Tryd.prog 17 #[v] w fun e w' => e = .returned (.string (mk (jnB ss))) ∧ w = w' := by
  obtain ⟨A, c, rfl, s1⟩ := h
  have S1 := Lib.hid s1
  have hlen := bulk_len ss
  clear s1
  obtain ⟨n, hn⟩ : ∃ n, ss.length = n := ⟨_, rfl⟩
  rw [hn] at S1 hlen ⊢
  have Hn := Lib.hid hn
  clear hn
  go_enter Tryd.func17, Tryd.ntmps17
  go_wp2
  go_loop [3, 4] (fun s i => ∃ (k : Nat) (x : ByteArray), i = .int .i64 k ∧ s = .string x ∧ k ≤ n ∧ x.size ≤ bulkS ss ∧ Hid (x.data.toList = jnB (ss.take k))) (fun _ i => n - (intOf i).toNat)
  case atStart => exact ⟨0, ⟨#[]⟩, rfl, rfl, by omega, Nat.zero_le _, Lib.hid rfl⟩
  case round =>
    obtain ⟨k, x, rfl, rfl, hk, hxs, hv⟩ := hrel
    by_cases hlt : k < n
    · obtain ⟨b1, o1, rfl, hg1, _, hc1⟩ := S1.out (by omega)
      obtain ⟨y, hy⟩ : ∃ y, ss[k]? = some y := ⟨_, List.getElem?_eq_getElem (by rw [Hn.out]; exact hlt)⟩
      have e1 := hc1 k y hy
      have hyb := bulk_mem (List.mem_of_getElem? hy)
      have hle := Nat.le_trans (jnB_le (ss.take (k + 1))) (bulk_take ss (k + 1))
      clear hc1
      by_cases hk0 : 0 < k
      · have hf : ((x ++ ⟨#[47]⟩) ++ y).data.toList = jnB (ss.take (k + 1)) := by
          rw [jnB_next y hk0 hy, ← hv.out]
          simp
        have hs : ((x ++ ⟨#[47]⟩) ++ y).size ≤ bulkS ss := by rw [← hf] at hle; exact hle
        have Hf := Lib.hid hf
        clear hf hy hle
        go_wp2
        go_round
        case rel => exact ⟨k + 1, (x ++ ⟨#[47]⟩) ++ y, by go_num, rfl, by omega, hs, Hf⟩
        case measure => simp [intOf]; omega
      · have hx0 : x = ⟨#[]⟩ := by
          have h := hv.out
          obtain rfl : k = 0 := by omega
          exact ByteArray.ext (Array.toList_inj.1 (h.trans rfl))
        have hf : (x ++ y).data.toList = jnB (ss.take (k + 1)) := by
          obtain rfl : k = 0 := by omega
          rw [jnB_first y hy, hx0]
          simp
        have hs : (x ++ y).size ≤ bulkS ss := by rw [← hf] at hle; exact hle
        have Hf := Lib.hid hf
        clear hf hy hx0 hle
        go_wp2
        go_round
        case rel => exact ⟨k + 1, x ++ y, by go_num, rfl, by omega, hs, Hf⟩
        case measure => simp [intOf]; omega
    · have Hf := Lib.hid (show x = mk (jnB ss) by
        have h := hv.out
        rw [List.take_of_length_le (by rw [Hn.out]; omega)] at h
        exact ByteArray.ext (Array.toList_inj.1 h))
      go_wp2
      go_ret
      exact ⟨ret_bytes Hf.out, rfl⟩

theorem join_rd (v : Value) (ss : List ByteArray) (w : World) (h : Rd w v ss) (hb : bulkS ss ≤ 4294967296) :
    Calls Tryd.prog 16 #[v] w fun e w' => e = .returned (.string (mk (jnB ss))) ∧ Below w.heap.size w w' := by
  obtain ⟨A, c, rfl, s1⟩ := h
  rcases Nat.eq_zero_or_pos ss.length with h0 | hp
  · have : ss = [] := List.eq_nil_of_length_eq_zero h0
    subst this
    exact (join_none A c w).mono fun e w' ⟨he, hw⟩ => ⟨he, hw ▸ Below.refl _ _⟩
  · obtain ⟨b, o, rfl, hg, hcap, hc⟩ := s1 hp
    have hl : (ss.map (·.data.toList)).length = ss.length := by simp
    have := bulk_len ss
    have c1 := join_any b o c (ss.map (·.data.toList)) w (fun k x hx => by
      rw [List.getElem?_map] at hx
      obtain ⟨y, hy, rfl⟩ := Option.map_eq_some_iff.1 hx
      exact hc k y hy) hg (by rw [hl]; exact hcap) (by rw [hl]; omega) (Nat.le_trans (jnB_le ss) (by omega))
    rw [hl] at c1
    exact c1
end Go.Proofs.YtjkpmccnieodjaaDoor
