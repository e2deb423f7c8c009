/- The walks of slices.Index and Contains at strings, of overlap's fresh. -/
import Derived.Test.YtichhppfdjkgkaaDoorOverTwo
namespace Go.Proofs.YtichhppfdjkgkaaDoor
set_option linter.unusedVariables false
open Go.RowKit Pl Go.Shelf

theorem elem_take_succ {L : List Bs} {k : Nat} {x y : Bs} (hx : L[k]? = some x) (h : (L.take k).elem y = false) (hne : y ≠ x) : (L.take (k + 1)).elem y = false := by
  rw [List.take_add_one, hx]
  simp only [List.elem_eq_mem, decide_eq_false_iff_not, List.mem_append, Option.toList_some, List.mem_singleton] at h ⊢
  rintro (h1 | h1)
  · exact h h1
  · exact hne h1
theorem index_any (A : Option Addr) (n cap : Nat) (L : List Bs) (y : Bs) (w : World) (hn : L.length = n) (hm : n ≤ 140737488355328)
    (h : 0 < n → ∃ b, A = some ⟨b, 0, none⟩ ∧ ∀ i x, L[i]? = some x → w.cell? ⟨b, i, none⟩ = some (strV x)) :
    Calls Tryd.prog 58 #[.slice A n cap, strV y] w fun e w' => ∃ z : Int, e = .returned (.int .i64 z) ∧ ((z = -1 ∧ L.elem y = false) ∨ (0 ≤ z ∧ L.elem y = true)) ∧ Below w.heap.size w w' := by
  have H := Lib.hid h
  have HN := Lib.hid hn
  clear h hn
  unfold strV
  go_enter Tryd.func58, Tryd.ntmps58
  go_wp2
  go_loopw [5, 8] (fun _ i wr => ∃ k : Nat, i = .int .i64 k ∧ k ≤ n ∧ Hid ((L.take k).elem y = false) ∧ Hid (∀ p, wr.cell? p = w.cell? p) ∧ Below w.heap.size w wr) (fun _ i _ => n - (intOf i).toNat)
  case atStart => exact ⟨0, rfl, by omega, Lib.hid rfl, Lib.hid (fun _ => rfl), Below.refl _ _⟩
  case round =>
    obtain ⟨k, rfl, hk, hv, hcell, hbel⟩ := hrel
    by_cases hlt : k < n
    · obtain ⟨b, rfl, hc⟩ := H.out (by omega)
      obtain ⟨x, hx⟩ : ∃ x, L[k]? = some x := ⟨_, List.getElem?_eq_getElem (by rw [HN.out]; exact hlt)⟩
      have e1 : wr.cell? ⟨b, k, none⟩ = some (strV x) := (hcell.out _).trans (hc k x hx)
      unfold strV at e1
      by_cases hxy : y = x
      · have f1 : (y == x) = true := by rw [hxy]; simp
        have Hr := Lib.hid (show L.elem y = true by
          simp only [List.elem_eq_mem, decide_eq_true_eq]
          rw [hxy]
          exact List.mem_of_getElem? hx)
        clear hx hc hxy
        go_wp2
        go_ret
        exact ⟨_, rfl, .inr ⟨by omega, Hr.out⟩, hbel⟩
      · have f1 : (y == x) = false := beq_eq_false_iff_ne.2 hxy
        have Hr := Lib.hid (elem_take_succ hx hv.out hxy)
        clear hx hc hxy
        go_wp2
        go_roundw
        case rel => exact ⟨k + 1, by go_num, by omega, Hr, Lib.hid (fun p => hcell.out p), hbel⟩
        case measure => simp [intOf]; omega
    · have Hr := Lib.hid (show L.elem y = false by
        have h := hv.out
        rw [List.take_of_length_le (by rw [HN.out]; omega)] at h
        exact h)
      go_wp2
      go_ret
      exact ⟨_, rfl, .inl ⟨rfl, Hr.out⟩, hbel⟩
theorem scontains_any (A : Option Addr) (n cap : Nat) (L : List Bs) (y : Bs) (w : World) (hn : L.length = n) (hm : n ≤ 140737488355328)
    (h : 0 < n → ∃ b, A = some ⟨b, 0, none⟩ ∧ ∀ i x, L[i]? = some x → w.cell? ⟨b, i, none⟩ = some (strV x)) :
    Calls Tryd.prog 50 #[.slice A n cap, strV y] w fun e w' => e = .returned (.bool (L.elem y)) ∧ Below w.heap.size w w' := by
  have C := index_any A n cap L y w hn hm h
  obtain ⟨t, ht⟩ : ∃ t, L.elem y = t := ⟨_, rfl⟩
  rw [ht] at C ⊢
  have C := Lib.hid C
  clear h hn ht
  unfold strV at C ⊢
  go_enter Tryd.func50, Tryd.ntmps50
  go_wp2_with fail
  refine C.out.mono ?_
  rintro e w' ⟨z, rfl, hz, hb⟩
  rcases hz with ⟨rfl, he⟩ | ⟨hz, he⟩
  · subst he
    go_wp2
    go_ret
    exact ⟨rfl, hb⟩
  · subst he
    go_wp2
    go_ret
    exact ⟨rfl, hb⟩
theorem frF_spec (X : List Bs) : ∀ (f k : Nat), k ≤ frF X f k ∧ frF X f k ≤ k + f ∧ ∀ j, k ≤ j → j < frF X f k → X.elem (List.replicate (j + 1) 97) = true := by
  intro f
  induction f with
  | zero => exact fun k => ⟨Nat.le_refl _, Nat.le_refl _, fun j h1 h2 => absurd h2 (by simp only [frF]; omega)⟩
  | succ f ih =>
    intro k
    simp only [frF]
    cases he : X.elem (List.replicate (k + 1) 97)
    · rw [if_neg (by simp)]
      exact ⟨Nat.le_refl _, by omega, fun j h1 h2 => absurd h2 (by omega)⟩
    · rw [if_pos rfl]
      obtain ⟨h1, h2, h3⟩ := ih (k + 1)
      refine ⟨by omega, by omega, fun j h4 h5 => ?_⟩
      by_cases hj : j = k
      · rw [hj]; exact he
      · exact h3 j (by omega) h5
theorem elem_app (A B : List Bs) (x : Bs) : (A ++ B).elem x = (A.elem x || B.elem x) := by
  rw [Bool.eq_iff_iff]; simp
theorem frs_spec (A B : List Bs) : ∃ K, frs A B = List.replicate (K + 1) 97 ∧ K ≤ A.length + B.length ∧ (∀ j, j < K → (A.elem (List.replicate (j + 1) 97) || B.elem (List.replicate (j + 1) 97)) = true) ∧
    (A.elem (List.replicate (K + 1) 97) || B.elem (List.replicate (K + 1) 97)) = false := by
  obtain ⟨h1, h2, h3⟩ := frF_spec (A ++ B) (A ++ B).length 0
  have h := frF_free (A ++ B) (A ++ B).length 0 (List.length_filter_le _ _)
  refine ⟨_, rfl, by simpa using h2, fun j hj => ?_, ?_⟩
  · rw [← elem_app]; exact h3 j (Nat.zero_le _) hj
  · rw [← elem_app]; exact h
def repA (k : Nat) : Bs := List.replicate (k + 1) 97
def strLen : Value → Nat
  | .string s => s.size
  | _ => 0
theorem repA_size (k : Nat) : (⟨(repA k).toArray⟩ : ByteArray).size = k + 1 := by simp [repA, ByteArray.size]
theorem repA_succ (k : Nat) : (⟨(repA k).toArray⟩ : ByteArray) ++ ⟨#[97]⟩ = ⟨(repA (k + 1)).toArray⟩ := by
  apply ByteArray.ext
  apply Array.ext'
  rw [ByteArray.data_append, Array.toList_append]
  unfold repA
  rw [List.replicate_succ' (n := k + 1)]
set_option maxHeartbeats 1000000 in
theorem fresh_any (u v : Value) (s t : Sh) (w : World) (hu : ShA w u s) (hv : ShA w v t) (hs : s.lv.length ≤ 1024) (ht : t.lv.length ≤ 1024) :
    Calls Tryd.prog 34 #[u, v] w fun e w' => e = .returned (strV (frs s.lv t.lv)) ∧ Below w.heap.size w w' := by
  obtain ⟨A, cap, rfl, h1, h2, h3⟩ := hu
  obtain ⟨A', cap', rfl, h1', h2', h3'⟩ := hv
  obtain ⟨K, hK, hKb, hK1, hK2⟩ := frs_spec s.lv t.lv
  have HK := Lib.hid hK
  have HK1 := Lib.hid hK1
  have HK2 := Lib.hid hK2
  obtain ⟨n, hn⟩ : ∃ n, s.lv.length = n := ⟨_, rfl⟩
  obtain ⟨m, hm⟩ : ∃ m, t.lv.length = m := ⟨_, rfl⟩
  have HN := Lib.hid hn
  have HM := Lib.hid hm
  obtain ⟨p, hp⟩ : ∃ p, s.op = p := ⟨_, rfl⟩
  obtain ⟨q, hq⟩ : ∃ q, t.op = q := ⟨_, rfl⟩
  rw [hn] at h1 hs h3 hKb
  rw [hm] at h1' ht h3' hKb
  rw [hn, hm, hp, hq]
  have H3 := Lib.hid h3
  have H3' := Lib.hid h3'
  have b0 : Below w.heap.size w ((w.alloc (.cells #[.slice A n cap, .bool p] 37)).alloc (.cells #[.slice A' m cap', .bool q] 37)) := ((Below.refl _ _).alloc (Nat.le_refl _) _).alloc (by simp) _
  have c0 : ((w.alloc (.cells #[.slice A n cap, .bool p] 37)).alloc (.cells #[.slice A' m cap', .bool q] 37)).cell? ⟨w.heap.size, 0, none⟩ = some (.slice A n cap) := by rw [World.cell?_alloc_past _ _ _ (by simp), World.cell?_alloc_at _ _ _ _ rfl]; rfl
  have c1 : ((w.alloc (.cells #[.slice A n cap, .bool p] 37)).alloc (.cells #[.slice A' m cap', .bool q] 37)).cell? ⟨w.heap.size + 1, 0, none⟩ = some (.slice A' m cap') := by rw [World.cell?_alloc_at _ _ _ _ (by simp)]; rfl
  have z : ((w.alloc (.cells #[.slice A n cap, .bool p] 37)).alloc (.cells #[.slice A' m cap', .bool q] 37)).heap.size = w.heap.size + 2 := by simp
  have B0 := Lib.hid b0
  have C0 := Lib.hid c0
  have C1 := Lib.hid c1
  have Z := Lib.hid z
  clear hK hK1 hK2 hn hm hp hq h3 h3' b0 c0 c1 z
  go_enter Tryd.func34, Tryd.ntmps34
  go_wp2
  obtain ⟨W, hW⟩ : ∃ W, ((w.alloc (.cells #[.slice A n cap, .bool p] 37)).alloc (.cells #[.slice A' m cap', .bool q] 37)) = W := ⟨_, rfl⟩
  rw [hW] at B0 C0 C1 Z ⊢
  clear hW
  go_loopw [5] (fun x wr => ∃ k : Nat, x = strV (repA k) ∧ k ≤ K ∧ Below W.heap.size W wr) (fun x _ => K + 1 - strLen x)
  case atStart => exact ⟨0, rfl, by omega, Below.refl _ _⟩
  case round =>
    obtain ⟨k, rfl, hk, hb⟩ := hrel
    have e0 : wr.cell? ⟨w.heap.size, 0, none⟩ = some (.slice A n cap) := (hb.cell (p := ⟨w.heap.size, 0, none⟩) (by have := Z.out; simp only; omega)).trans C0.out
    have e1 : wr.cell? ⟨w.heap.size + 1, 0, none⟩ = some (.slice A' m cap') := (hb.cell (p := ⟨w.heap.size + 1, 0, none⟩) (by have := Z.out; simp only; omega)).trans C1.out
    have ks : ∀ b i, b < w.heap.size → wr.cell? ⟨b, i, none⟩ = w.cell? ⟨b, i, none⟩ := fun b i h => (hb.cell (p := ⟨b, i, none⟩) (by have := Z.out; simp only; omega)).trans (B0.out.cell (p := ⟨b, i, none⟩) h)
    have zr := hb.size
    have zz := Z.out
    obtain ⟨x, hx⟩ : ∃ x, s.lv.elem (repA k) = x := ⟨_, rfl⟩
    obtain ⟨y, hy⟩ : ∃ y, t.lv.elem (repA k) = y := ⟨_, rfl⟩
    have hor : (k < K ∧ (x || y) = true) ∨ (k = K ∧ (x || y) = false) := by
      by_cases hkk : k < K
      · refine .inl ⟨hkk, ?_⟩
        have := HK1.out k hkk
        rw [← hx, ← hy]; exact this
      · have hk2 : k = K := by omega
        refine .inr ⟨hk2, ?_⟩
        have := HK2.out
        rw [← hx, ← hy, hk2]; exact this
    have cA := scontains_any A n cap s.lv (repA k) wr HN.out (by omega) (fun hp => by
      obtain ⟨b, e, hl, hc⟩ := H3.out hp
      exact ⟨b, e, fun i x hx => (ks b i hl).trans (hc i x hx)⟩)
    have cB : ∀ W1, Below wr.heap.size wr W1 → Calls Tryd.prog 50 #[.slice A' m cap', strV (repA k)] W1 fun e w' => e = .returned (.bool (t.lv.elem (repA k))) ∧ Below W1.heap.size W1 w' := fun W1 h1 =>
      scontains_any A' m cap' t.lv (repA k) W1 HM.out (by omega) (fun hp => by
      obtain ⟨b, e, hl, hc⟩ := H3'.out hp
      exact ⟨b, e, fun i x hx => ((h1.cell (p := ⟨b, i, none⟩) (by simp only; omega)).trans (ks b i hl)).trans (hc i x hx)⟩)
    rw [hx] at cA
    rw [hy] at cB
    have CA := Lib.hid cA
    have CB := Lib.hid cB
    have HR := Lib.hid (show frs s.lv t.lv = repA K from HK.out)
    have SZ := repA_size k
    have SC := repA_succ k
    obtain ⟨X, hX⟩ : ∃ X : ByteArray, (⟨(repA k).toArray⟩ : ByteArray) = X := ⟨_, rfl⟩
    have hXV : strV (repA k) = .string X := by rw [← hX]; rfl
    rw [hXV] at CA CB ⊢
    rw [hX] at SZ SC
    have HX := Lib.hid hX
    clear cA cB ks hx hy hX hXV
    cases x
    · cases y
      · rcases hor with ⟨hl, h0⟩ | ⟨hl, h0⟩
        · cases h0
        · subst hl
          go_wp2_with fail
          refine CA.out.mono ?_
          rintro e w1 ⟨rfl, b1⟩
          have e2 := (b1.cell (p := ⟨w.heap.size + 1, 0, none⟩) (by simp only; omega)).trans e1
          go_wp2_with fail
          refine (CB.out _ b1).mono ?_
          rintro e w2 ⟨rfl, b2⟩
          go_wp2
          go_ret
          exact ⟨by rw [HR.out, ← HX.out]; rfl, B0.out.trans ((hb.trans ((b1.trans (b2.mono b1.size)).mono zr)).mono (by omega))⟩
      · rcases hor with ⟨hl, h0⟩ | ⟨hl, h0⟩
        · go_wp2_with fail
          refine CA.out.mono ?_
          rintro e w1 ⟨rfl, b1⟩
          have e2 := (b1.cell (p := ⟨w.heap.size + 1, 0, none⟩) (by simp only; omega)).trans e1
          go_wp2_with fail
          refine (CB.out _ b1).mono ?_
          rintro e w2 ⟨rfl, b2⟩
          go_wp2
          go_roundw
          case rel => exact ⟨k + 1, rfl, by omega, hb.trans ((b1.trans (b2.mono b1.size)).mono zr)⟩
          case measure => (have e1 := repA_size (k + 1)); simp only [strLen]; omega
        · cases h0
    · rcases hor with ⟨hl, h0⟩ | ⟨hl, h0⟩
      · go_wp2_with fail
        refine CA.out.mono ?_
        rintro e w1 ⟨rfl, b1⟩
        go_wp2
        go_roundw
        case rel => exact ⟨k + 1, rfl, by omega, hb.trans (b1.mono zr)⟩
        case measure => (have e1 := repA_size (k + 1)); simp only [strLen]; omega
      · cases h0
end Go.Proofs.YtichhppfdjkgkaaDoor
