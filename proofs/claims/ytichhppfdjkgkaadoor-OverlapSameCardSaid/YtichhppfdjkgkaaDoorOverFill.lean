/- The walk of overlap's filled, for whatever function of a number that hands levels back. -/
import Derived.Test.YtichhppfdjkgkaaDoorOverFresh
import Derived.Test.YtichhppfdjkgkaaDoorTopicJoin
import Derived.Test.YtichhppfdjkgkaaDoorAux
import Derived.Shelf.Abstract
namespace Go.Proofs.YtichhppfdjkgkaaDoor
set_option linter.unusedVariables false
open Go.RowKit Pl Go.Shelf

theorem fil_succ (k : Nat) (g : Nat → Bs) (o : Bs) : fil (k + 1) g o = fil k g o ++ [if g k = [43] then o else g k] := by
  unfold fil
  rw [List.range_succ, List.map_append]; rfl
theorem jn_bound {B : Nat} : ∀ {L : List Bs}, (∀ x ∈ L, x.length ≤ B) → (jn L).length ≤ L.length * (B + 1)
  | [], _ => Nat.zero_le _
  | [x], h => by
    have := h x (by simp)
    show x.length ≤ _
    simp; omega
  | x :: y :: r, h => by
    have h1 := h x (by simp)
    have h2 := jn_bound (L := y :: r) (fun z hz => h z (by simp at hz ⊢; exact .inr hz))
    rw [jn_cons _ (by simp), List.length_append, List.length_cons]
    rw [List.length_cons, Nat.add_mul]
    omega
theorem own_below {w w' : World} {base n size : Nat} {e : TypeId} {v : Value} {xs : List Value} (h : w.ownsRow base e size v n xs) (hb : Below w.heap.size w w') : w'.ownsRow base e size v n xs := by
  refine ⟨h.1, ?_⟩
  rcases h.2 with h0 | ⟨g, cap, cur, rfl, hg, hh, hrest⟩
  · exact .inl h0
  · exact .inr ⟨g, cap, cur, rfl, hg, (hb.block g (h.lt g rfl).2).trans hh, hrest⟩
set_option maxHeartbeats 1000000 in
theorem filled_any (fn : Nat) (first cp : Array Value) (g : Nat → Bs) (n : Nat) (o : Bs) (w : World) (h1 : 1 ≤ n) (h2 : n ≤ 4096)
    (hlen : (jn (fil n g o)).length ≤ 140737488355328)
    (he : ∀ args w, (callFunc fn args).run Tryd.prog w = .ok (.enter fn args) w)
    (hf : ∀ (i : Nat) (W : World), i < n → Below w.heap.size w W → Calls Tryd.prog fn (first.push (.int .i64 i) ++ cp) W fun e w' => e = .returned (strV (g i)) ∧ Below W.heap.size W w') :
    Calls Tryd.prog 32 #[.int .i64 n, .func (.func fn) first cp, strV o] w fun e w' => e = .returned (strV (jn (fil n g o))) ∧ Below w.heap.size w w' := by
  have HF := Lib.hid hf
  have HL := Lib.hid hlen
  clear hf hlen
  obtain ⟨i0, hi, hz0, hz1, hz2⟩ := info_parts info_str
  unfold strV
  go_enter Tryd.func32, Tryd.ntmps32
  go_wp2
  go_loopw [7, 11] (fun v i wr => ∃ k : Nat, i = .int .i64 k ∧ k ≤ n ∧ wr.ownsRow w.heap.size 9 1 v k ((fil k g o).map strV) ∧ Below w.heap.size w wr) (fun _ i _ => n - (intOf i).toNat)
  case atStart => exact ⟨0, rfl, by omega, World.ownsRow_nil _ _ _ _, Below.refl _ _⟩
  case round =>
    obtain ⟨k, rfl, hk, hown, hb⟩ := hrel
    by_cases hlt : k < n
    · have CF := HF.out k wr hlt hb
      obtain ⟨x, hx⟩ : ∃ x, g k = x := ⟨_, rfl⟩
      rw [hx] at CF
      have CF := Lib.hid CF
      have hS := fil_succ k g o
      rw [hx] at hS
      have hn1 : Hid ((fil k g o).length = k) := Lib.hid (fil_length k g o)
      obtain ⟨l, hl⟩ : ∃ l, fil k g o = l := ⟨_, rfl⟩
      rw [hl] at hown hS
      clear hl hx
      unfold strV at CF
      have hby : (k + 1) * 16 ≤ 140737488355328 := by omega
      clear hn1
      by_cases hxo : x = [43]
      · have f1 : (x == [43]) = true := by rw [hxo]; rfl
        rw [if_pos hxo] at hS
        have HS := Lib.hid hS
        clear hS hxo
        go_wp2_with (first
          | (go_at_fn fn; refine CF.out.mono ?_; rintro e w1 ⟨rfl, b1⟩; have hown1 := own_below hown b1; have hb1 := hb.trans (b1.mono hb.size))
          | (at_builtin; refine wpList_push (.tmp 20) (.tmp 22) 29 9 i0 (.string ⟨#[]⟩) 16 rfl rfl Tryd.underlying29 hi hz0 hz1 hz2 rfl w.heap.size _ k (l.map strV) (strV o) rfl rfl hown1 hb1 hb1.size rfl (by simp [maxLen]; omega) hby ?_; intro v' w2 hown2 hbel2 hs2 hn2))
        go_roundw
        case rel => exact ⟨k + 1, by go_num, by omega, by rw [HS.out, List.map_append]; exact hown2, hbel2⟩
        case measure => simp [intOf]; omega
      · have f1 : (x == [43]) = false := beq_eq_false_iff_ne.2 hxo
        rw [if_neg hxo] at hS
        have HS := Lib.hid hS
        clear hS hxo
        go_wp2_with (first
          | (go_at_fn fn; refine CF.out.mono ?_; rintro e w1 ⟨rfl, b1⟩; have hown1 := own_below hown b1; have hb1 := hb.trans (b1.mono hb.size))
          | (at_builtin; refine wpList_push (.tmp 20) (.tmp 22) 29 9 i0 (.string ⟨#[]⟩) 16 rfl rfl Tryd.underlying29 hi hz0 hz1 hz2 rfl w.heap.size _ k (l.map strV) (strV x) rfl rfl hown1 hb1 hb1.size rfl (by simp [maxLen]; omega) hby ?_; intro v' w2 hown2 hbel2 hs2 hn2))
        go_roundw
        case rel => exact ⟨k + 1, by go_num, by omega, by rw [HS.out, List.map_append]; exact hown2, hbel2⟩
        case measure => simp [intOf]; omega
    · have hkn : k = n := by omega
      subst hkn
      have hl : (fil k g o).length = k := fil_length k g o
      rcases hown.2 with ⟨rfl, h0⟩ | ⟨G, cap, cur, rfl, _, hh, hnc, _⟩
      · omega
      · have hG := (hown.lt G rfl).2
        have hcell : ∀ (j : Nat) x, (fil k g o)[j]? = some x → wr.cell? ⟨G, j, none⟩ = some (strV x) := fun j x hx => by
          have hj := (List.getElem?_eq_some_iff.1 hx).1
          rw [hown.cellAt j (by omega), List.getElem?_map, hx]; rfl
        have CJ := Lib.hid (join_at G k cap (fil k g o) wr hl hcell hG hnc (by omega) HL.out)
        clear hcell hh hown hl
        go_wp2_with fail
        refine CJ.out.mono ?_
        rintro e w1 ⟨rfl, b1⟩
        go_wp2
        go_ret
        exact ⟨rfl, hb.trans (b1.mono hb.size)⟩
end Go.Proofs.YtichhppfdjkgkaaDoor
