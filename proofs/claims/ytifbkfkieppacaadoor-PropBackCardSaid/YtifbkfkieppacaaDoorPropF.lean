/- The walks of both Find functions, of slices.IndexFunc at properties. -/
import Derived.Test.YtifbkfkieppacaaDoorPropW
import Derived.Shelf.Abstract
namespace Go.Proofs.YtifbkfkieppacaaDoor
set_option linter.unusedVariables false
open Go.RowKit

def zP : Pp := ⟨0, 0, ⟨#[]⟩, ⟨#[]⟩⟩
theorem find1_any (B : Nat) (id : Int) (p : Pp) (w : World) (hB : w.cell? ⟨B, 0, none⟩ = some (.int .i64 id)) (hl : B < w.heap.size) :
    Calls Tryd.prog 52 #[.agg #[.int .i64 p.id, .int .i64 p.n, .string p.s, .string p.t], .pointer (some ⟨B, 0, none⟩)] w fun e w' => e = .returned (.bool (p.id == id)) ∧ Below w.heap.size w w' := by
  have e1 : (w.alloc (.cells #[.int .i64 p.id, .int .i64 p.n, .string p.s, .string p.t] 39)).cell? ⟨B, 0, none⟩ = some (.int .i64 id) := (World.cell?_alloc_past _ _ _ hl).trans hB
  obtain ⟨t, ht⟩ : ∃ t, (p.id == id) = t := ⟨_, rfl⟩
  rw [ht]
  go_enter Tryd.func52, Tryd.ntmps52
  go_wp2
  go_ret
  exact ⟨rfl, (Below.refl _ _).alloc (Nat.le_refl _) _⟩
theorem find_here {L : List Pp} {k : Nat} {x : Pp} {q : Pp → Bool} (hx : L[k]? = some x) (h : (L.take k).any q = false) (hq : q x = true) : L.find? q = some x := by
  have hk := (List.getElem?_eq_some_iff.1 hx).1
  have e : L = L.take k ++ x :: L.drop (k + 1) := by
    have h2 := List.drop_eq_getElem_cons hk
    rw [(List.getElem?_eq_some_iff.1 hx).2] at h2
    rw [← h2, List.take_append_drop]
  rw [e, List.find?_append, List.find?_cons_of_pos hq]
  have : (L.take k).find? q = none := by
    rw [List.find?_eq_none]
    intro y hy
    have := List.any_eq_false.1 h y hy
    exact this
  rw [this]; rfl
theorem find_not {L : List Pp} {q : Pp → Bool} (h : L.any q = false) : L.find? q = none := by
  rw [List.find?_eq_none]
  exact List.any_eq_false.1 h
theorem any_take_p {L : List Pp} {k : Nat} {x : Pp} {q : Pp → Bool} (hx : L[k]? = some x) (h : (L.take k).any q = false) (hq : q x = false) : (L.take (k + 1)).any q = false := by
  rw [List.take_add_one, hx, List.any_append, h]
  simp [hq]
set_option maxHeartbeats 1000000 in
theorem pindex_any (fn : Nat) (first cp : Array Value) (q : Pp → Bool) (A : Option Addr) (n cap : Nat) (L : List Pp) (w : World) (hn : L.length = n) (hm : n ≤ 1048576) (h : PRow w A L)
    (he : ∀ args w, (callFunc fn args).run Tryd.prog w = .ok (.enter fn args) w)
    (hf : ∀ (p : Pp) (W : World), Below w.heap.size w W → Calls Tryd.prog fn (first.push (.agg #[.int .i64 p.id, .int .i64 p.n, .string p.s, .string p.t]) ++ cp) W fun e w' => e = .returned (.bool (q p)) ∧ Below W.heap.size W w') :
    Calls Tryd.prog 51 #[.slice A n cap, .func (.func fn) first cp] w fun e w' => ∃ z : Int, e = .returned (.int .i64 z) ∧ ((z = -1 ∧ L.find? q = none) ∨ (∃ (k : Nat) (p : Pp), z = k ∧ L[k]? = some p ∧ L.find? q = some p)) ∧ Below w.heap.size w w' := by
  have H := Lib.hid h
  have HN := Lib.hid hn
  have HF := Lib.hid hf
  clear h hn hf
  go_enter Tryd.func51, Tryd.ntmps51
  go_wp2
  go_loopw [5, 8] (fun _ i wr => ∃ k : Nat, i = .int .i64 k ∧ k ≤ n ∧ Hid ((L.take k).any q = false) ∧ Below w.heap.size w wr) (fun _ i _ => n - (intOf i).toNat)
  case atStart => exact ⟨0, rfl, by omega, Lib.hid rfl, Below.refl _ _⟩
  case round =>
    obtain ⟨k, rfl, hk, hv, hbel⟩ := hrel
    by_cases hlt : k < n
    · obtain ⟨b, o, rfl, hl, hc⟩ := (H.out.below hbel) (by rw [HN.out]; omega)
      obtain ⟨x, hx⟩ : ∃ x, L[k]? = some x := ⟨_, List.getElem?_eq_getElem (by rw [HN.out]; exact hlt)⟩
      obtain ⟨e1, e2, e3, e4⟩ := hc k x hx
      have CF := HF.out x wr hbel
      obtain ⟨y, hy⟩ : ∃ y, q x = y := ⟨_, rfl⟩
      rw [hy] at CF
      have CF := Lib.hid CF
      have hkn : (k : Int) < (n : Int) := by omega
      cases y
      · have Hr := Lib.hid (any_take_p hx hv.out hy)
        clear hx hc hy
        go_wp2_with (go_at_fn fn; refine CF.out.mono ?_; rintro e w1 ⟨rfl, b1⟩)
        go_roundw
        case rel => exact ⟨k + 1, by go_num, by omega, Hr, hbel.trans (b1.mono hbel.size)⟩
        case measure => simp [intOf]; omega
      · have Hr := Lib.hid (find_here hx hv.out hy)
        have Hx := Lib.hid hx
        clear hx hc hy
        go_wp2_with (go_at_fn fn; refine CF.out.mono ?_; rintro e w1 ⟨rfl, b1⟩)
        go_ret
        exact ⟨_, rfl, .inr ⟨k, x, rfl, Hx.out, Hr.out⟩, hbel.trans (b1.mono hbel.size)⟩
    · have Hr := Lib.hid (show L.any q = false by
        have h := hv.out
        rw [List.take_of_length_le (by rw [HN.out]; omega)] at h
        exact h)
      go_wp2
      go_ret
      exact ⟨_, rfl, .inl ⟨rfl, find_not Hr.out⟩, hbel⟩
/-- The first of an identifier. -/
def fnd (L : List Pp) (id : Int) : Option Pp := L.find? fun p => p.id == id
set_option maxHeartbeats 1000000 in
theorem find_any (A : Option Addr) (n cap : Nat) (L : List Pp) (id : Int) (w : World) (hn : L.length = n) (hm : n ≤ 1048576) (h : PRow w A L) :
    Calls Tryd.prog 30 #[.slice A n cap, .int .i64 id] w fun e w' => e = .returned (.tuple #[ppV ((fnd L id).getD zP), .bool (fnd L id).isSome]) ∧ Below w.heap.size w w' := by
  have b0 : Below w.heap.size w ((w.alloc (.cells #[.int .i64 id] 3)).alloc (.cells #[.int .i64 0, .int .i64 0, .string ⟨#[]⟩, .string ⟨#[]⟩] 39)) := ((Below.refl _ _).alloc (Nat.le_refl _) _).alloc (by simp) _
  have hb0 : ((w.alloc (.cells #[.int .i64 id] 3)).alloc (.cells #[.int .i64 0, .int .i64 0, .string ⟨#[]⟩, .string ⟨#[]⟩] 39)).cell? ⟨w.heap.size, 0, none⟩ = some (.int .i64 id) := (World.cell?_alloc_past _ _ _ (by simp)).trans (World.cell?_alloc_at _ _ _ _ rfl)
  have hm0 : ∀ j, ((w.alloc (.cells #[.int .i64 id] 3)).alloc (.cells #[.int .i64 0, .int .i64 0, .string ⟨#[]⟩, .string ⟨#[]⟩] 39)).cell? ⟨w.heap.size + 1, j, none⟩ = (#[.int .i64 0, .int .i64 0, .string ⟨#[]⟩, .string ⟨#[]⟩] : Array Value)[j]? := fun j => World.cell?_alloc_at _ _ _ _ (by simp)
  have hf0 : ∀ j, ((w.alloc (.cells #[.int .i64 id] 3)).alloc (.cells #[.int .i64 0, .int .i64 0, .string ⟨#[]⟩, .string ⟨#[]⟩] 39)).frozen? ⟨w.heap.size + 1, j, none⟩ = false := fun j => by simp [go_sem]
  have hz0 : w.heap.size + 2 = ((w.alloc (.cells #[.int .i64 id] 3)).alloc (.cells #[.int .i64 0, .int .i64 0, .string ⟨#[]⟩, .string ⟨#[]⟩] 39)).heap.size := by simp
  obtain ⟨W, hW⟩ : ∃ W, (w.alloc (.cells #[.int .i64 id] 3)).alloc (.cells #[.int .i64 0, .int .i64 0, .string ⟨#[]⟩, .string ⟨#[]⟩] 39) = W := ⟨_, rfl⟩
  have hW2 := hW
  rw [hW] at b0 hb0 hm0 hf0 hz0
  have C := pindex_any 52 #[] #[.pointer (some ⟨w.heap.size, 0, none⟩)] (fun p => p.id == id) A n cap L W hn hm (h.below b0) (enters_of Tryd.func52 (by kernel_rfl) rfl) (fun p Y hb => find1_any w.heap.size id p Y ((hb.cell (p := ⟨w.heap.size, 0, none⟩) (by simp only; omega)).trans hb0) (Nat.lt_of_lt_of_le (by omega) hb.size))
  have H := Lib.hid (h.below b0)
  have HN := Lib.hid hn
  obtain ⟨R, hR⟩ : ∃ R, fnd L id = R := ⟨_, rfl⟩
  rw [hR]
  change (L.find? fun p => p.id == id) = R at hR
  rw [hR] at C
  have C := Lib.hid C
  have B0 := Lib.hid b0
  have M0 := Lib.hid hm0
  have F0 := Lib.hid hf0
  have HW := Lib.hid hW
  clear h hn hR b0 hm0 hf0 hW hb0 hW2
  go_enter Tryd.func30, Tryd.ntmps30
  go_wp2_with fail
  rw [HW.out]
  refine C.out.mono ?_
  rintro e w1 ⟨z, rfl, hz, b1⟩
  have hl1 : w.heap.size + 1 < w1.heap.size := by have := b1.size; omega
  have cc : ∀ j, w1.cell? ⟨w.heap.size + 1, j, none⟩ = _ := fun j => (b1.cell (p := ⟨w.heap.size + 1, j, none⟩) (by simp only; omega)).trans (M0.out j)
  have ff : ∀ j, w1.frozen? ⟨w.heap.size + 1, j, none⟩ = false := fun j => (b1.frozen (p := ⟨w.heap.size + 1, j, none⟩) (by simp only; omega)).trans (F0.out j)
  have m0 := cc 0
  have m1 := cc 1
  have m2 := cc 2
  have m3 := cc 3
  simp only [List.getElem?_toArray, List.getElem?_cons_zero, List.getElem?_cons_succ] at m0 m1 m2 m3
  have f0 := ff 0
  have f1 := ff 1
  have f2 := ff 2
  have f3 := ff 3
  have Bb := Lib.hid (B0.out.trans (b1.mono B0.out.size))
  have H1 := Lib.hid (H.out.below b1)
  clear cc ff b1
  rcases hz with ⟨rfl, rfl⟩ | ⟨k, p, rfl, hk, rfl⟩
  · go_wp2
    refine bodyPost_ret (v := .tuple #[.agg #[.int .i64 0, .int .i64 0, .string ⟨#[]⟩, .string ⟨#[]⟩], .bool false]) (by simp [results, Tryd.results30, go_sem, m0, m1, m2, m3]) rfl ⟨rfl, ?_⟩
    exact (((Bb.out.setCell (by simp) _).setCell (by simp) _).setCell (by simp) _).setCell (by simp) _
  · have hkn := (List.getElem?_eq_some_iff.1 hk).1
    rw [HN.out] at hkn
    obtain ⟨b, o, rfl, hl, hc⟩ := H1.out (by rw [HN.out]; omega)
    obtain ⟨e1, e2, e3, e4⟩ := hc k p hk
    have hkI : (k : Int) < (n : Int) := by omega
    have hk0 : ¬ (k : Int) < 0 := by omega
    clear hc hk
    go_wp2
    refine bodyPost_ret (v := .tuple #[.agg #[.int .i64 p.id, .int .i64 p.n, .string p.s, .string p.t], .bool true]) (by simp [results, Tryd.results30, go_sem, m0, m1, m2, m3]) rfl ⟨rfl, ?_⟩
    exact (((Bb.out.setCell (by simp) _).setCell (by simp) _).setCell (by simp) _).setCell (by simp) _
end Go.Proofs.YtifbkfkieppacaaDoor
