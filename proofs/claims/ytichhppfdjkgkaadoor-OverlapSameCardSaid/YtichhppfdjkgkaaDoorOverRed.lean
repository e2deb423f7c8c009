/- The walks of slices.ContainsFunc at strings, of Reduce's two closures. -/
import Derived.Test.YtichhppfdjkgkaaDoorOverRedP
import Derived.Test.YtichhppfdjkgkaaDoorOverWake0
import Derived.Shelf.Abstract
namespace Go.Proofs.YtichhppfdjkgkaaDoor
set_option linter.unusedVariables false
open Go.RowKit Pl Go.Shelf

/-- A row of strings, from an offset on. -/
def RowO (w : World) (A : Option Addr) (L : List ByteArray) : Prop := 0 < L.length → ∃ b o, A = some ⟨b, o, none⟩ ∧ b < w.heap.size ∧ ∀ i x, L[i]? = some x → w.cell? ⟨b, o + i, none⟩ = some (.string x)
theorem RowO.below {w w' : World} {A : Option Addr} {L : List ByteArray} (h : RowO w A L) (hb : Below w.heap.size w w') : RowO w' A L := fun hp => by
  obtain ⟨b, o, e, h1, h2⟩ := h hp
  exact ⟨b, o, e, Nat.lt_of_lt_of_le h1 hb.size, fun i x hx => (hb.cell (p := ⟨b, o + i, none⟩) h1).trans (h2 i x hx)⟩
theorem any_take_succ {L : List ByteArray} {k : Nat} {x : ByteArray} {q : ByteArray → Bool} (hx : L[k]? = some x) (h : (L.take k).any q = false) (hq : q x = false) : (L.take (k + 1)).any q = false := by
  rw [List.take_add_one, hx, List.any_append, h]
  simp [hq]
set_option maxHeartbeats 1000000 in
theorem indexfunc_any (fn : Nat) (first cp : Array Value) (q : ByteArray → Bool) (A : Option Addr) (n cap : Nat) (L : List ByteArray) (w : World) (hn : L.length = n) (hm : n ≤ 140737488355328) (h : RowO w A L)
    (he : ∀ args w, (callFunc fn args).run Tryd.prog w = .ok (.enter fn args) w)
    (hf : ∀ (x : ByteArray) (W : World), x ∈ L → Below w.heap.size w W → Calls Tryd.prog fn (first.push (.string x) ++ cp) W fun e w' => e = .returned (.bool (q x)) ∧ Below W.heap.size W w') :
    Calls Tryd.prog 55 #[.slice A n cap, .func (.func fn) first cp] w fun e w' => ∃ z : Int, e = .returned (.int .i64 z) ∧ ((z = -1 ∧ L.any q = false) ∨ (0 ≤ z ∧ L.any q = true)) ∧ Below w.heap.size w w' := by
  have H := Lib.hid h
  have HN := Lib.hid hn
  have HF := Lib.hid hf
  clear h hn hf
  go_enter Tryd.func55, Tryd.ntmps55
  go_wp2
  go_loopw [5, 8] (fun _ i wr => ∃ k : Nat, i = .int .i64 k ∧ k ≤ n ∧ Hid ((L.take k).any q = false) ∧ Below w.heap.size w wr) (fun _ i _ => n - (intOf i).toNat)
  case atStart => exact ⟨0, rfl, by omega, Lib.hid rfl, Below.refl _ _⟩
  case round =>
    obtain ⟨k, rfl, hk, hv, hbel⟩ := hrel
    by_cases hlt : k < n
    · obtain ⟨b, o, rfl, hl, hc⟩ := (H.out.below hbel) (by rw [HN.out]; omega)
      obtain ⟨x, hx⟩ : ∃ x, L[k]? = some x := ⟨_, List.getElem?_eq_getElem (by rw [HN.out]; exact hlt)⟩
      have e1 : wr.cell? ⟨b, o + k, none⟩ = some (.string x) := hc k x hx
      have CF := HF.out x wr (List.mem_of_getElem? hx) hbel
      obtain ⟨y, hy⟩ : ∃ y, q x = y := ⟨_, rfl⟩
      rw [hy] at CF
      have CF := Lib.hid CF
      cases y
      · have Hr := Lib.hid (any_take_succ hx hv.out hy)
        clear hx hc hy
        go_wp2_with (go_at_fn fn; refine CF.out.mono ?_; rintro e w1 ⟨rfl, b1⟩)
        go_roundw
        case rel => exact ⟨k + 1, by go_num, by omega, Hr, hbel.trans (b1.mono hbel.size)⟩
        case measure => simp [intOf]; omega
      · have Hr := Lib.hid (show L.any q = true from List.any_eq_true.2 ⟨x, List.mem_of_getElem? hx, hy⟩)
        clear hx hc hy
        go_wp2_with (go_at_fn fn; refine CF.out.mono ?_; rintro e w1 ⟨rfl, b1⟩)
        go_ret
        exact ⟨_, rfl, .inr ⟨by omega, Hr.out⟩, hbel.trans (b1.mono hbel.size)⟩
    · have Hr := Lib.hid (show L.any q = false by
        have h := hv.out
        rw [List.take_of_length_le (by rw [HN.out]; omega)] at h
        exact h)
      go_wp2
      go_ret
      exact ⟨_, rfl, .inl ⟨rfl, Hr.out⟩, hbel⟩
theorem containsfunc_any (fn : Nat) (first cp : Array Value) (q : ByteArray → Bool) (A : Option Addr) (n cap : Nat) (L : List ByteArray) (w : World) (hn : L.length = n) (hm : n ≤ 140737488355328) (h : RowO w A L)
    (he : ∀ args w, (callFunc fn args).run Tryd.prog w = .ok (.enter fn args) w)
    (hf : ∀ (x : ByteArray) (W : World), x ∈ L → Below w.heap.size w W → Calls Tryd.prog fn (first.push (.string x) ++ cp) W fun e w' => e = .returned (.bool (q x)) ∧ Below W.heap.size W w') :
    Calls Tryd.prog 39 #[.slice A n cap, .func (.func fn) first cp] w fun e w' => e = .returned (.bool (L.any q)) ∧ Below w.heap.size w w' := by
  have C := indexfunc_any fn first cp q A n cap L w hn hm h he hf
  obtain ⟨t, ht⟩ : ∃ t, L.any q = t := ⟨_, rfl⟩
  rw [ht] at C ⊢
  have C := Lib.hid C
  clear h hn ht hf he
  go_enter Tryd.func39, Tryd.ntmps39
  go_wp2_with fail
  refine C.out.mono ?_
  rintro e w' ⟨z, rfl, hz, hb⟩
  rcases hz with ⟨rfl, he⟩ | ⟨hz, he⟩
  · subst he
    go_wp2
    go_ret
    exact ⟨rfl, hb⟩
  · subst he
    go_wp2
    go_ret
    exact ⟨rfl, hb⟩
theorem red1_any (B : Nat) (f g : ByteArray) (w : World) (hf : f.size ≤ 281474976710656) (hg : g.size ≤ 281474976710656) (hT : Tabs w) (hB : w.cell? ⟨B, 0, none⟩ = some (.string g)) :
    Calls Tryd.prog 40 #[.string f, .pointer (some ⟨B, 0, none⟩)] w fun e w' => e = .returned (.bool (cvB f g)) ∧ Below w.heap.size w w' := by
  have C := Lib.hid (covers_any f g w hf hg hT)
  clear hT
  go_enter Tryd.func40, Tryd.ntmps40
  go_wp2_with fail
  refine C.out.mono ?_
  rintro e w1 ⟨rfl, b1⟩
  go_wp2
  go_ret
  exact ⟨rfl, b1⟩
theorem red2_any (B : Nat) (f g : ByteArray) (w : World) (hf : f.size ≤ 281474976710656) (hg : g.size ≤ 281474976710656) (hT : Tabs w) (hl : B < w.heap.size) (hB : w.cell? ⟨B, 0, none⟩ = some (.string g)) :
    Calls Tryd.prog 41 #[.string f, .pointer (some ⟨B, 0, none⟩)] w fun e w' => e = .returned (.bool (cvB f g && !cvB g f)) ∧ Below w.heap.size w w' := by
  have C := covers_any f g w hf hg hT
  have C2 : ∀ W, Below w.heap.size w W → _ := fun W hb => covers_any g f W hg hf (hT.below hb)
  obtain ⟨x, hx⟩ : ∃ x, cvB f g = x := ⟨_, rfl⟩
  obtain ⟨y, hy⟩ : ∃ y, cvB g f = y := ⟨_, rfl⟩
  rw [hx] at C ⊢
  rw [hy] at C2 ⊢
  have C := Lib.hid C
  have C2 := Lib.hid C2
  clear hT hx hy
  cases x
  · go_enter Tryd.func41, Tryd.ntmps41
    go_wp2_with fail
    refine C.out.mono ?_
    rintro e w1 ⟨rfl, b1⟩
    go_wp2
    go_ret
    exact ⟨rfl, b1⟩
  · go_enter Tryd.func41, Tryd.ntmps41
    go_wp2_with fail
    refine C.out.mono ?_
    rintro e w1 ⟨rfl, b1⟩
    have e1 := (b1.cell (p := ⟨B, 0, none⟩) hl).trans hB
    go_wp2_with fail
    refine (C2.out _ b1).mono ?_
    rintro e w2 ⟨rfl, b2⟩
    go_wp2
    go_ret
    exact ⟨rfl, b1.trans (b2.mono b1.size)⟩
end Go.Proofs.YtichhppfdjkgkaaDoor
