/- StreamSplits (for inputs of bulk at most 1048576): the law's walk. -/
import Derived.Test.YthdbkpapkheefaaSplit
import Derived.Deep.QuietTactic
import Derived.BigQuiet
namespace Go.Proofs.Ythdbkpapkheefaa
set_option linter.unusedVariables false
open Go.RowKit Pl

theorem split_len (most : Int) : ∀ (f : Nat) (s : ByteArray), (splitF most f s).1.length ≤ f := by
  intro f
  induction f with
  | zero => intro s; exact Nat.le_refl _
  | succ f ih =>
    intro s
    unfold splitF
    repeat' split
    all_goals first | exact Nat.zero_le _ | exact Nat.succ_le_succ (ih _)
theorem own_shape {w : World} {base n : Nat} {e : TypeId} {v : Value} {xs : List Value} (h : w.ownsRow base e 1 v n xs) :
    ∃ a cap, v = .slice a n cap ∧ (0 < n → ∃ g, a = some ⟨g, 0, none⟩ ∧ g < w.heap.size ∧ ∀ j u, xs[j]? = some u → w.cell? ⟨g, j, none⟩ = some u) := by
  have h2 := h.2
  rcases h2 with ⟨rfl, rfl⟩ | ⟨g, cap, cur, rfl, hb, hg, hrest⟩
  · exact ⟨none, 0, rfl, fun h => absurd h (by omega)⟩
  · refine ⟨_, cap, rfl, fun _ => ⟨g, rfl, (h.lt g rfl).2, fun j u hu => ?_⟩⟩
    have hj : j < xs.length := (List.getElem?_eq_some_iff.1 hu).1
    rw [h.cellAt j (by rw [← h.1]; exact hj), hu]

theorem streamSplits_walk (s : ByteArray) (hs : s.size ≤ 1048576) (most : Int) (hn : (Lit.int .i64 most).wf = true) (w : World) :
    Calls Try.prog 6 #[.string s, .int .i64 most] w fun e w' => e = .returned (.bool true) ∧ Below w.heap.size w w' := by
  have hb := i64_bd hn
  clear hn
  have hone : splitF 9 ({ data := #[192, 0] } : ByteArray).size { data := #[192, 0] } = ([{ data := #[192, 0] }], { data := #[] }, 0) := by decide
  have Hone := Lib.hid hone
  clear hone
  have hcodes := split_codes most s.size s
  have hlen := split_len most s.size s
  obtain ⟨L, x, c, hL⟩ : ∃ L x c, splitF most s.size s = (L, x, c) := ⟨_, _, _, rfl⟩
  rw [hL] at hcodes hlen
  have hc0 : 0 ≤ c := hcodes.1
  have hc1 : c ≤ 242 := hcodes.2
  have HL := Lib.hid hL
  clear hL hcodes
  go_enter Try.func6, Try.ntmps6
  go_wp2_with fail
  refine (split_any s most _ hs hb.1 hb.2).mono ?_
  rintro e w1 ⟨v1, rfl, o1, b1⟩
  rw [HL.out] at o1 ⊢
  obtain ⟨a1, c1, rfl, s1⟩ := own_shape o1
  have S1 := Lib.hid s1
  clear s1
  go_wp2_with fail
  refine (refsplit_any s most _ hs hb.1 hb.2).mono ?_
  rintro e w2 ⟨v2, rfl, o2, b2⟩
  rw [HL.out] at o2 ⊢
  obtain ⟨a2, c2, rfl, s2⟩ := own_shape o2
  have S2 := Lib.hid s2
  clear s2
  go_wp2_with fail
  refine (split_any _ 9 _ (by decide) (by omega) (by omega)).mono ?_
  rintro e w3 ⟨v3, rfl, o3, b3⟩
  rw [Hone.out] at o3 ⊢
  obtain ⟨a3, c3, rfl, s3⟩ := own_shape o3
  clear s3
  clear o1 o2 o3
  obtain ⟨n, hnl⟩ : ∃ n, L.length = n := ⟨_, rfl⟩
  have hn64 : n ≤ 1048576 := by rw [← hnl]; exact Nat.le_trans hlen hs
  clear hlen
  have b12 := b1.trans (b2.mono b1.size)
  have b13 := b12.trans (b3.mono b12.size)
  rw [hnl] at S1 S2 ⊢
  have Hn := Lib.hid hnl
  clear hnl
  go_wp2
  go_loopw [57] (fun i wr => ∃ k : Nat, i = .int .i64 k ∧ k ≤ n ∧ Hid (∀ p, wr.cell? p = w3.cell? p) ∧ Below w.heap.size w wr) (fun i _ => n - (intOf i).toNat)
  case atStart => exact ⟨0, rfl, by omega, Lib.hid (fun _ => rfl), b13⟩
  case round =>
    obtain ⟨k, rfl, hk, hcell, hbel⟩ := hrel
    by_cases hlt : k < n
    · obtain ⟨g1, rfl, hg1, hc1'⟩ := S1.out (by omega)
      obtain ⟨g2, rfl, hg2, hc2'⟩ := S2.out (by omega)
      obtain ⟨y, hy⟩ : ∃ y, L[k]? = some y := ⟨_, List.getElem?_eq_getElem (by rw [Hn.out]; exact hlt)⟩
      have hyv : (L.map Value.string)[k]? = some (.string y) := by rw [List.getElem?_map, hy]; rfl
      have e1 : wr.cell? ⟨g1, k, none⟩ = some (.string y) := by
        rw [hcell.out, b3.cell (p := ⟨g1, k, none⟩) (Nat.lt_of_lt_of_le hg1 b2.size), b2.cell (p := ⟨g1, k, none⟩) hg1]
        exact hc1' k _ hyv
      have e2 : wr.cell? ⟨g2, k, none⟩ = some (.string y) := by
        rw [hcell.out, b3.cell (p := ⟨g2, k, none⟩) hg2]
        exact hc2' k _ hyv
      clear hy hyv hc1' hc2'
      go_wp2
      go_quiet (fail)
      go_wp2
      go_roundw
      case rel => exact ⟨k + 1, by go_num, by omega, Lib.hid (fun p => hcell.out p), ⟨hbel.os, hbel.tape, hbel.output, hbel.size, hbel.block⟩⟩
      case measure => simp [intOf]; omega
    · go_wp2
      go_ret
      exact ⟨rfl, hbel⟩
end Go.Proofs.Ythdbkpapkheefaa
