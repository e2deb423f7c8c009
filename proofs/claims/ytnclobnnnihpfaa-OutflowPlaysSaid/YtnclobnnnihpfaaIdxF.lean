/- slices.IndexFunc at flights; Answer's test. -/
import Derived.Test.YtnclobnnnihpfaaOver
import Derived.Shelf.Abstract
namespace Go.Proofs.Ytnclobnnnihpfaa
set_option linter.unusedVariables false
open Go.RowKit Go.Maps

theorem ans1_any (b : Nat) (id : Int) (x : OF) (w : World) (hB : w.cell? ⟨b, 4, none⟩ = some (.int .i64 id)) (hl : b < w.heap.size) :
    Calls Try.prog 28 #[.agg #[.int .i64 x.id, .string x.m.topic, .string x.m.payload, .int .i64 x.m.qos, .bool x.m.retain, .string x.m.tag, .bool x.rel], .pointer (some ⟨b, 0, none⟩)] w fun e w' => e = .returned (.bool (x.id == id)) ∧ Below w.heap.size w w' := by
  have e1 : (w.alloc (.cells #[.int .i64 x.id, .string x.m.topic, .string x.m.payload, .int .i64 x.m.qos, .bool x.m.retain, .string x.m.tag, .bool x.rel] 45)).cell? ⟨b, 4, none⟩ = some (.int .i64 id) := (World.cell?_alloc_past _ _ _ hl).trans hB
  obtain ⟨t, ht⟩ : ∃ t, (x.id == id) = t := ⟨_, rfl⟩
  rw [ht]
  go_enter Try.func28, Try.ntmps28
  go_wp2
  go_ret
  exact ⟨rfl, (Below.refl _ _).alloc (Nat.le_refl _) _⟩
theorem idx_here {L : List OF} {k : Nat} {x : OF} {q : OF → Bool} (hx : L[k]? = some x) (h : (L.take k).any q = false) (hq : q x = true) : L.findIdx? q = some k := by
  have hk := (List.getElem?_eq_some_iff.1 hx).1
  rw [List.findIdx?_eq_some_iff_getElem]
  refine ⟨hk, by rw [(List.getElem?_eq_some_iff.1 hx).2]; exact hq, fun j hj hc => ?_⟩
  have h2 := List.any_eq_false.1 h L[j] (List.mem_take_iff_getElem.2 ⟨j, by omega, rfl⟩)
  exact h2 hc
theorem idx_not {L : List OF} {q : OF → Bool} (h : L.any q = false) : L.findIdx? q = none := by
  rw [List.findIdx?_eq_none_iff]
  intro x hx
  have := List.any_eq_false.1 h x hx
  simpa using this
theorem any_take_f {L : List OF} {k : Nat} {x : OF} {q : OF → Bool} (hx : L[k]? = some x) (h : (L.take k).any q = false) (hq : q x = false) : (L.take (k + 1)).any q = false := by
  rw [List.take_add_one, hx, List.any_append, h]
  simp [hq]
set_option maxHeartbeats 1000000 in
set_option maxRecDepth 100000 in
theorem findex_any (fn : Nat) (first cp : Array Value) (q : OF → Bool) (B : Nat) (v : Value) (l : List OF) (w : World) (hl : l.length ≤ 64) (h : Sl B w 45 7 v l.length (flL l))
    (he : ∀ args w, (callFunc fn args).run Try.prog w = .ok (.enter fn args) w)
    (hf : ∀ (x : OF) (W : World), Below w.heap.size w W → Calls Try.prog fn (first.push (.agg #[.int .i64 x.id, .string x.m.topic, .string x.m.payload, .int .i64 x.m.qos, .bool x.m.retain, .string x.m.tag, .bool x.rel]) ++ cp) W fun e w' => e = .returned (.bool (q x)) ∧ Below W.heap.size W w') :
    Calls Try.prog 27 #[v, .func (.func fn) first cp] w fun e w' => ∃ z : Int, e = .returned (.int .i64 z) ∧ ((z = -1 ∧ l.findIdx? q = none) ∨ (∃ (k : Nat), z = k ∧ l.findIdx? q = some k)) ∧ Below w.heap.size w w' := by
  have H := Lib.hid h
  have HF := Lib.hid hf
  obtain ⟨ao, cap, rfl, hnc, hcm, -⟩ := h.form
  obtain ⟨N, hN⟩ : ∃ N, l.length = N := ⟨_, rfl⟩
  have HN := Lib.hid hN
  rw [hN] at hl hnc ⊢
  unfold maxLen at hcm
  clear h hf hN
  go_enter Try.func27, Try.ntmps27
  go_wp2
  go_loopw [5, 8] (fun _ i wr => ∃ k : Nat, i = .int .i64 k ∧ k ≤ N ∧ Hid ((l.take k).any q = false) ∧ Below w.heap.size w wr) (fun _ i _ => N - (intOf i).toNat)
  case atStart => exact ⟨0, rfl, by omega, Lib.hid rfl, Below.refl _ _⟩
  case round =>
    obtain ⟨k, rfl, hk, hv, hbel⟩ := hrel
    by_cases hlt : k < N
    · have hsl := H.out.below hbel
      obtain ⟨x, hx⟩ : ∃ x, l[k]? = some x := ⟨_, List.getElem?_eq_getElem (by rw [HN.out]; exact hlt)⟩
      obtain ⟨g, o, cap', hve, _, _, _, _, hcl⟩ := hsl.at (by rw [HN.out]; omega)
      rw [HN.out] at hve
      injection hve with hve _ hcc
      subst hve hcc
      have e0 := hcl (k * 7) _ (flL_get l k x hx 0 _ rfl)
      have e1 := hcl (k * 7 + 1) _ (flL_get l k x hx 1 _ rfl)
      have e2 := hcl (k * 7 + 2) _ (flL_get l k x hx 2 _ rfl)
      have e3 := hcl (k * 7 + 3) _ (flL_get l k x hx 3 _ rfl)
      have e4 := hcl (k * 7 + 4) _ (flL_get l k x hx 4 _ rfl)
      have e5 := hcl (k * 7 + 5) _ (flL_get l k x hx 5 _ rfl)
      have e6 := hcl (k * 7 + 6) _ (flL_get l k x hx 6 _ rfl)
      simp only [← Nat.add_assoc] at e1 e2 e3 e4 e5 e6
      have CF := HF.out x wr hbel
      obtain ⟨y, hy⟩ : ∃ y, q x = y := ⟨_, rfl⟩
      rw [hy] at CF
      have CF := Lib.hid CF
      have hkn : (k : Int) < (N : Int) := by omega
      cases y
      · have Hr := Lib.hid (any_take_f hx hv.out hy)
        clear hx hcl hy hsl
        go_wp2_with (go_at_fn fn; refine CF.out.mono ?_; rintro e w1 ⟨rfl, b1⟩)
        go_roundw
        case rel => exact ⟨k + 1, by go_num, by omega, Hr, hbel.trans (b1.mono hbel.size)⟩
        case measure => simp [intOf]; omega
      · have Hr := Lib.hid (idx_here hx hv.out hy)
        clear hx hcl hy hsl
        go_wp2_with (go_at_fn fn; refine CF.out.mono ?_; rintro e w1 ⟨rfl, b1⟩)
        go_ret
        exact ⟨_, rfl, .inr ⟨k, rfl, Hr.out⟩, hbel.trans (b1.mono hbel.size)⟩
    · have Hr := Lib.hid (show l.any q = false by
        have h := hv.out
        rw [List.take_of_length_le (by rw [HN.out]; omega)] at h
        exact h)
      go_wp2
      go_ret
      exact ⟨_, rfl, .inl ⟨rfl, idx_not Hr.out⟩, hbel⟩
end Go.Proofs.Ytnclobnnnihpfaa
