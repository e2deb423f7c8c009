/- The walks of the document's Find, of both Users. -/
import Derived.Test.YtohgepaldjailaaPropF
import Derived.Deep.DeepCutAuto
namespace Go.Proofs.Ytohgepaldjailaa
set_option linter.unusedVariables false
open Go.RowKit

set_option maxHeartbeats 1000000 in
theorem reffind_any (A : Option Addr) (n cap : Nat) (L : List Pp) (id : Int) (w : World) (hn : L.length = n) (hm : n ≤ 1048576) (h : PRow w A L) :
    Calls Try.prog 6 #[.slice A n cap, .int .i64 id] w fun e w' => e = .returned (.tuple #[ppV ((fnd L id).getD zP), .bool (fnd L id).isSome]) ∧ Below w.heap.size w w' := by
  have b0 : Below w.heap.size w (w.alloc (.cells #[.int .i64 0, .int .i64 0, .string ⟨#[]⟩, .string ⟨#[]⟩] 31)) := (Below.refl _ _).alloc (Nat.le_refl _) _
  have hm0 : ∀ j, (w.alloc (.cells #[.int .i64 0, .int .i64 0, .string ⟨#[]⟩, .string ⟨#[]⟩] 31)).cell? ⟨w.heap.size, j, none⟩ = (#[.int .i64 0, .int .i64 0, .string ⟨#[]⟩, .string ⟨#[]⟩] : Array Value)[j]? := fun j => World.cell?_alloc_at _ _ _ _ rfl
  have hf0 : ∀ j, (w.alloc (.cells #[.int .i64 0, .int .i64 0, .string ⟨#[]⟩, .string ⟨#[]⟩] 31)).frozen? ⟨w.heap.size, j, none⟩ = false := fun j => by simp [go_sem]
  have hz0 : w.heap.size + 1 = (w.alloc (.cells #[.int .i64 0, .int .i64 0, .string ⟨#[]⟩, .string ⟨#[]⟩] 31)).heap.size := by simp
  obtain ⟨W, hW⟩ : ∃ W, w.alloc (.cells #[.int .i64 0, .int .i64 0, .string ⟨#[]⟩, .string ⟨#[]⟩] 31) = W := ⟨_, rfl⟩
  rw [hW] at b0 hm0 hf0 hz0
  have H := Lib.hid (h.below b0)
  have HN := Lib.hid hn
  have B0 := Lib.hid b0
  have M0 := Lib.hid hm0
  have F0 := Lib.hid hf0
  have HW := Lib.hid hW
  clear h hn b0 hm0 hf0 hW
  go_enter Try.func6, Try.ntmps6
  go_wp2
  rw [HW.out]
  go_loopw [6] (fun i wr => ∃ k : Nat, i = .int .i64 k ∧ k ≤ n ∧ Hid ((L.take k).any (fun p => p.id == id) = false) ∧ Hid (Below W.heap.size W wr)) (fun i _ => n - (intOf i).toNat)
  case atStart => exact ⟨0, rfl, by omega, Lib.hid rfl, Lib.hid (Below.refl _ _)⟩
  case round =>
    obtain ⟨k, rfl, hk, hv, hb⟩ := hrel
    have hl1 : w.heap.size < wr.heap.size := by have := hb.out.size; omega
    have cc : ∀ j, wr.cell? ⟨w.heap.size, j, none⟩ = _ := fun j => (hb.out.cell (p := ⟨w.heap.size, j, none⟩) (by simp only; omega)).trans (M0.out j)
    have ff : ∀ j, wr.frozen? ⟨w.heap.size, j, none⟩ = false := fun j => (hb.out.frozen (p := ⟨w.heap.size, j, none⟩) (by simp only; omega)).trans (F0.out j)
    have m0 := cc 0
    have m1 := cc 1
    have m2 := cc 2
    have m3 := cc 3
    simp only [List.getElem?_toArray, List.getElem?_cons_zero, List.getElem?_cons_succ] at m0 m1 m2 m3
    have f0 := ff 0
    have f1 := ff 1
    have f2 := ff 2
    have f3 := ff 3
    have Bb := Lib.hid (B0.out.trans (hb.out.mono B0.out.size))
    clear cc ff
    by_cases hlt : k < n
    · obtain ⟨b, o, rfl, hl, hc⟩ := (H.out.below hb.out) (by rw [HN.out]; omega)
      obtain ⟨p, hp⟩ : ∃ x, L[k]? = some x := ⟨_, List.getElem?_eq_getElem (by rw [HN.out]; exact hlt)⟩
      obtain ⟨e1, e2, e3, e4⟩ := hc k p hp
      have hkI : (k : Int) < (n : Int) := by omega
      cases hq : (p.id == id)
      · have Hr := Lib.hid (any_take_p hp hv.out hq)
        clear hc hp
        go_wp2
        go_roundw
        case rel => exact ⟨k + 1, by go_num, by omega, Hr, hb⟩
        case measure => simp [intOf]; omega
      · have Hr := Lib.hid (show fnd L id = some p from find_here hp hv.out hq)
        clear hc hp
        go_wp2
        refine bodyPost_ret (v := .tuple #[.agg #[.int .i64 p.id, .int .i64 p.n, .string p.s, .string p.t], .bool true]) (by simp [results, Try.results6, go_sem, m0, m1, m2, m3]) rfl ⟨by rw [Hr.out]; rfl, ?_⟩
        exact (((Bb.out.setCell (by simp) _).setCell (by simp) _).setCell (by simp) _).setCell (by simp) _
    · have Hr := Lib.hid (show fnd L id = none from find_not (by
        have h := hv.out
        rw [List.take_of_length_le (by rw [HN.out]; omega)] at h
        exact h))
      go_wp2
      refine bodyPost_ret (v := .tuple #[.agg #[.int .i64 0, .int .i64 0, .string ⟨#[]⟩, .string ⟨#[]⟩], .bool false]) (by simp [results, Try.results6, go_sem, m0, m1, m2, m3]) rfl ⟨by rw [Hr.out]; rfl, ?_⟩
      exact (((Bb.out.setCell (by simp) _).setCell (by simp) _).setCell (by simp) _).setCell (by simp) _
/-- The values of the pairs of a name. -/
def uqB (N : ByteArray) (p : Pp) : Bool := (p.id == 38) && (p.s.toList == N.toList)
def usr (L : List Pp) (N : ByteArray) : List ByteArray := (L.filter (uqB N)).map (·.t)
theorem usr_succ {L : List Pp} {N : ByteArray} {k : Nat} {p : Pp} (hp : L[k]? = some p) : usr (L.take (k + 1)) N = usr (L.take k) N ++ (if uqB N p then [p.t] else []) := by
  unfold usr
  rw [List.take_add_one, hp, List.filter_append, List.map_append]
  congr 1
  cases h : uqB N p <;> simp [h]
theorem usr_len (L : List Pp) (N : ByteArray) (k : Nat) : (usr (L.take k) N).length ≤ k := by
  unfold usr
  rw [List.length_map]
  exact Nat.le_trans (List.length_filter_le _ _) (by rw [List.length_take]; omega)
theorem info_str4 : (Try.prog.info? 9).map (fun i => (i.zero, i.size, i.bytes)) = some (some (.string ⟨#[]⟩), 1, 16) := by kernel_rfl
set_option maxHeartbeats 1000000 in
theorem users_any (A : Option Addr) (n cap : Nat) (L : List Pp) (N : ByteArray) (w : World) (hn : L.length = n) (hm : n ≤ 1048576) (h : PRow w A L) :
    Calls Try.prog 7 #[.slice A n cap, .string N] w fun e w' => ∃ v, e = .returned v ∧ w'.ownsRow w.heap.size 9 1 v (usr L N).length ((usr L N).map Value.string) ∧ Below w.heap.size w w' := by
  have H := Lib.hid h
  have HN := Lib.hid hn
  obtain ⟨i0, hi, hz0, hz1, hz2⟩ := info_parts info_str4
  clear h hn
  go_enter Try.func7, Try.ntmps7
  go_wp2
  go_loopw [5, 10] (fun v i wr => ∃ k : Nat, i = .int .i64 k ∧ k ≤ n ∧ wr.ownsRow w.heap.size 9 1 v (usr (L.take k) N).length ((usr (L.take k) N).map Value.string) ∧ Below w.heap.size w wr) (fun _ i _ => n - (intOf i).toNat)
  case atStart => exact ⟨0, rfl, by omega, World.ownsRow_nil _ _ _ _, Below.refl _ _⟩
  case round =>
    obtain ⟨k, rfl, hk, own, hbel⟩ := hrel
    by_cases hlt : k < n
    · obtain ⟨b, o, rfl, hl, hc⟩ := (H.out.below hbel) (by rw [HN.out]; omega)
      obtain ⟨p, hp⟩ : ∃ x, L[k]? = some x := ⟨_, List.getElem?_eq_getElem (by rw [HN.out]; exact hlt)⟩
      obtain ⟨e1, e2, e3, e4⟩ := hc k p hp
      have hkI : (k : Int) < (n : Int) := by omega
      have hS := usr_succ (N := N) hp
      have hul := usr_len L N k
      obtain ⟨R, hR⟩ : ∃ R, usr (L.take k) N = R := ⟨_, rfl⟩
      rw [hR] at own hS hul
      obtain ⟨m, hm1⟩ : ∃ m, R.length = m := ⟨_, rfl⟩
      rw [hm1] at own hul
      have HM := Lib.hid hm1
      have q0 := own.alloc (.cells #[.int .i64 p.id, .int .i64 p.n, .string p.s, .string p.t] 28)
      have qb := hbel.alloc hbel.size (.cells #[.int .i64 p.id, .int .i64 p.n, .string p.s, .string p.t] 28)
      have hby : (m + 1) * 16 ≤ 140737488355328 := by omega
      clear hc hp hR hm1
      unfold uqB at hS
      cases h1 : (p.id == 38)
      · rw [h1] at hS
        have HS := Lib.hid hS
        clear hS
        go_wp2
        go_roundw
        case rel => exact ⟨k + 1, by go_num, by omega, by rw [show usr (L.take (k + 1)) N = R from HS.out.trans (List.append_nil R), HM.out]; exact q0, qb⟩
        case measure => simp [intOf]; omega
      · cases h2 : (p.s.toList == N.toList)
        · rw [h1, h2] at hS
          have HS := Lib.hid hS
          clear hS
          go_wp2
          go_roundw
          case rel => exact ⟨k + 1, by go_num, by omega, by rw [show usr (L.take (k + 1)) N = R from HS.out.trans (List.append_nil R), HM.out]; exact q0, qb⟩
          case measure => simp [intOf]; omega
        · rw [h1, h2] at hS
          have HS := Lib.hid hS
          clear hS
          go_upto_region 6 with fail
          have hcT : (wr.alloc (.cells #[.int .i64 p.id, .int .i64 p.n, .string p.s, .string p.t] 28)).cell? ⟨wr.heap.size, 3, none⟩ = some (.string p.t) := World.cell?_alloc_at _ _ _ _ rfl
          obtain ⟨X, hX⟩ : ∃ X, wr.alloc (.cells #[.int .i64 p.id, .int .i64 p.n, .string p.s, .string p.t] 28) = X := ⟨_, rfl⟩
          rw [hX] at q0 qb hcT ⊢
          clear hX e1 e2 e3 e4 own
          go_wp2_with (at_builtin; refine wpList_push (.tmp 23) (.tmp 26) 34 9 i0 (.string ⟨#[]⟩) 16 rfl rfl Try.underlying34 hi hz0 hz1 hz2 rfl w.heap.size _ m (R.map Value.string) (.string p.t) rfl rfl q0 qb qb.size rfl (by simp [maxLen]; omega) hby ?_; intro v' w5 hown5 hbel5 hs5 hn5)
          go_roundw
          case rel => exact ⟨k + 1, by go_num, by omega, by rw [show usr (L.take (k + 1)) N = R ++ [p.t] from HS.out, List.length_append, List.map_append, HM.out]; exact hown5, hbel5⟩
          case measure => simp [intOf]; omega
    · have hkn : k = n := by omega
      subst hkn
      rw [List.take_of_length_le (by rw [HN.out]; exact Nat.le_refl _)] at own
      go_wp2
      go_ret
      exact ⟨_, rfl, own, hbel⟩
set_option maxHeartbeats 1000000 in
theorem refusers_any (A : Option Addr) (n cap : Nat) (L : List Pp) (N : ByteArray) (w : World) (hn : L.length = n) (hm : n ≤ 1048576) (h : PRow w A L) :
    Calls Try.prog 8 #[.slice A n cap, .string N] w fun e w' => ∃ v, e = .returned v ∧ w'.ownsRow w.heap.size 9 1 v (usr L N).length ((usr L N).map Value.string) ∧ Below w.heap.size w w' := by
  have H := Lib.hid h
  have HN := Lib.hid hn
  obtain ⟨i0, hi, hz0, hz1, hz2⟩ := info_parts info_str4
  clear h hn
  go_enter Try.func8, Try.ntmps8
  go_wp2
  go_loopw [5, 6] (fun v i wr => ∃ k : Nat, i = .int .i64 k ∧ k ≤ n ∧ wr.ownsRow w.heap.size 9 1 v (usr (L.take k) N).length ((usr (L.take k) N).map Value.string) ∧ Below w.heap.size w wr) (fun _ i _ => n - (intOf i).toNat)
  case atStart => exact ⟨0, rfl, by omega, World.ownsRow_nil _ _ _ _, Below.refl _ _⟩
  case round =>
    obtain ⟨k, rfl, hk, own, hbel⟩ := hrel
    by_cases hlt : k < n
    · obtain ⟨b, o, rfl, hl, hc⟩ := (H.out.below hbel) (by rw [HN.out]; omega)
      obtain ⟨p, hp⟩ : ∃ x, L[k]? = some x := ⟨_, List.getElem?_eq_getElem (by rw [HN.out]; exact hlt)⟩
      obtain ⟨e1, e2, e3, e4⟩ := hc k p hp
      have hkI : (k : Int) < (n : Int) := by omega
      have hS := usr_succ (N := N) hp
      have hul := usr_len L N k
      obtain ⟨R, hR⟩ : ∃ R, usr (L.take k) N = R := ⟨_, rfl⟩
      rw [hR] at own hS hul
      obtain ⟨m, hm1⟩ : ∃ m, R.length = m := ⟨_, rfl⟩
      rw [hm1] at own hul
      have HM := Lib.hid hm1
      have q0 := own
      have qb := hbel
      have hby : (m + 1) * 16 ≤ 140737488355328 := by omega
      clear hc hp hR hm1
      unfold uqB at hS
      cases h1 : (p.id == 38)
      · rw [h1] at hS
        have HS := Lib.hid hS
        clear hS
        go_wp2
        go_roundw
        case rel => exact ⟨k + 1, by go_num, by omega, by rw [show usr (L.take (k + 1)) N = R from HS.out.trans (List.append_nil R), HM.out]; exact q0, qb⟩
        case measure => simp [intOf]; omega
      · cases h2 : (p.s.toList == N.toList)
        · rw [h1, h2] at hS
          have HS := Lib.hid hS
          clear hS
          go_wp2
          go_roundw
          case rel => exact ⟨k + 1, by go_num, by omega, by rw [show usr (L.take (k + 1)) N = R from HS.out.trans (List.append_nil R), HM.out]; exact q0, qb⟩
          case measure => simp [intOf]; omega
        · rw [h1, h2] at hS
          have HS := Lib.hid hS
          clear hS
          go_wp2_with (at_builtin; refine wpList_push (.tmp 28) (.tmp 34) 34 9 i0 (.string ⟨#[]⟩) 16 rfl rfl Try.underlying34 hi hz0 hz1 hz2 rfl w.heap.size _ m (R.map Value.string) (.string p.t) rfl rfl q0 qb qb.size rfl (by simp [maxLen]; omega) hby ?_; intro v' w5 hown5 hbel5 hs5 hn5)
          go_roundw
          case rel => exact ⟨k + 1, by go_num, by omega, by rw [show usr (L.take (k + 1)) N = R ++ [p.t] from HS.out, List.length_append, List.map_append, HM.out]; exact hown5, hbel5⟩
          case measure => simp [intOf]; omega
    · have hkn : k = n := by omega
      subst hkn
      rw [List.take_of_length_le (by rw [HN.out]; exact Nat.le_refl _)] at own
      go_wp2
      go_ret
      exact ⟨_, rfl, own, hbel⟩
end Go.Proofs.Ytohgepaldjailaa
