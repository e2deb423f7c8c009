/- OutflowOnce: what its walk wants. -/
import Derived.Test.YtnclobnnnihpfaaOnceK
namespace Go.Proofs.Ytnclobnnnihpfaa
set_option linter.unusedVariables false
open Go.RowKit Go.Maps
theorem wrap_succ (n : Nat) (hn : n ≤ 1000) : wrap64 ((n : Int) + 1) = ((n + 1 : Nat) : Int) := by
  unfold wrap64; omega
theorem run_two (x y : Int) (Z W4 : World) (hW : Z.alloc (.cells #[.int .u8 x, .int .u8 y] 5) = W4) :
    (convert 64 9 (.slice (some ⟨Z.heap.size, 0, none⟩) 2 2)).run Try.prog W4 = .ok (.string (strOfNums [x, y])) W4 := by
  have hb : Blk W4 Z.heap.size #[.int .u8 x, .int .u8 y] 5 := by rw [← hW]; exact Blk.new _ _ _
  exact run_convert_bytes_arg W4 64 5 Try.underlying64 Try.underlying5 Z.heap.size 0 2 2 [x, y] rfl (fun i hi => by
    obtain rfl | rfl : i = 0 ∨ i = 1 := by omega
    · exact hb.cell 0
    · exact hb.cell 1) 9 Try.underlying9
theorem pay_nums (n : Nat) (x : Int) (hx : x = ((n + 1 : Nat) : Int)) : strOfNums [x % 256, x / 256 % 256] = pay (n + 1) := by
  subst hx
  have e1 : (((n + 1 : Nat) : Int) % 256).toNat = (n + 1) % 256 := by omega
  have e2 : (((n + 1 : Nat) : Int) / 256 % 256).toNat = (n + 1) / 256 % 256 := by omega
  unfold strOfNums pay
  simp only [List.map_cons, List.map_nil, e1, e2]
theorem pay_conv (n : Nat) (hn : n ≤ 1000) (x : Int) (hx : x = ((n + 1 : Nat) : Int)) (Z W4 : World) (hW : Z.alloc (.cells #[.int .u8 (x % 256), .int .u8 (x / 256 % 256)] 5) = W4) :
    (convert 64 9 (.slice (some ⟨Z.heap.size, 0, none⟩) 2 2)).run Try.prog W4 = .ok (.string (pay (n + 1))) W4 := by
  rw [← pay_nums n x hx]
  exact run_two _ _ Z W4 hW
theorem fanswer_len {s : FS} (k id code : Int) (h : s.wt.length ≤ 256) : (fanswer s k id code).2.1.length ≤ 400 := by
  have h1 : ∀ i, (goOn (fover s i)).2.length ≤ 256 := fun i => goOn_len h
  have h2 : ∀ i, (goOn (frel s i)).2.length ≤ 256 := fun i => goOn_len h
  unfold fanswer
  repeat' split
  all_goals (try simp only [List.length_nil, List.length_cons])
  all_goals first | omega | (exact Nat.le_trans (h1 _) (by omega)) | (exact Nat.le_trans (Nat.succ_le_succ (h2 _)) (by omega))
theorem fbegin_len {s : FS} (n : Int) (h : s.wt.length ≤ 256) (hf : s.fl.length ≤ 64) : (fbegin s n).2.length ≤ 400 := by
  have h1 := goOn_len (s := { s with on := true, most := bounded n }) h
  unfold fbegin
  rw [List.length_append, List.length_map]
  omega
theorem fsend_len {s : FS} (m : OM) (h : s.wt.length ≤ 256) : (fsend s m).2.1.length ≤ 400 := by
  unfold fsend
  repeat' split
  all_goals (try simp only [List.length_nil])
  all_goals first | omega | skip
  rename_i h3
  exact Nat.le_trans (goOn_len (by simp only [List.length_append, List.length_cons, List.length_nil]; omega)) (by omega)
theorem once_laid (B fp pb mb F0 : Nat) (s : FS) (w W : World) (h : FlowAt B fp pb mb s w) (e : w.heap.size = F0)
    (hW : ((((w.alloc (.cells #[.pointer (some ⟨fp, 0, none⟩)] 23)).alloc (.map #[] 0)).alloc (.cells #[.map (some (F0 + 1))] 25)).alloc (.map #[] 0)).alloc (.cells #[.map (some (F0 + 1 + 1 + 1))] 26) = W) :
    OnceW B fp pb mb (F0 + 1) (F0 + 1 + 1 + 1) F0 (F0 + 1 + 1) (F0 + 1 + 1 + 1 + 1) s (fun _ => none) 0 (fun _ => false) 0 W ∧ Below w.heap.size w W := by
  subst e
  have hm := h.mlt
  obtain ⟨A, hA⟩ : ∃ A, w.alloc (.cells #[.pointer (some ⟨fp, 0, none⟩)] 23) = A := ⟨_, rfl⟩
  have eA : A.heap.size = w.heap.size + 1 := by rw [← hA]; simp
  have b1 : Blk A w.heap.size #[.pointer (some ⟨fp, 0, none⟩)] 23 := by rw [← hA]; exact Blk.new _ _ _
  have bA : Below w.heap.size w A := by rw [← hA]; exact (Below.refl _ _).alloc (Nat.le_refl _) _
  rw [hA] at hW
  obtain ⟨C, hC⟩ : ∃ C, A.alloc (.map #[] 0) = C := ⟨_, rfl⟩
  have eC : C.heap.size = w.heap.size + 1 + 1 := by rw [← hC, ← eA]; simp
  have s1 : SentAt (w.heap.size + 1) (fun _ => none) 0 C := by rw [← hC, ← eA]; exact SentAt.new _
  have bC : Below A.heap.size A C := by rw [← hC]; exact (Below.refl _ _).alloc (Nat.le_refl _) _
  rw [hC] at hW
  obtain ⟨E, hE⟩ : ∃ E, C.alloc (.cells #[.map (some (w.heap.size + 1))] 25) = E := ⟨_, rfl⟩
  have eE : E.heap.size = w.heap.size + 1 + 1 + 1 := by rw [← hE, ← eC]; simp
  have b2 : Blk E (w.heap.size + 1 + 1) #[.map (some (w.heap.size + 1))] 25 := by rw [← hE, ← eC]; exact Blk.new _ _ _
  have bE : Below C.heap.size C E := by rw [← hE]; exact (Below.refl _ _).alloc (Nat.le_refl _) _
  rw [hE] at hW
  obtain ⟨G, hG⟩ : ∃ G, E.alloc (.map #[] 0) = G := ⟨_, rfl⟩
  have eG : G.heap.size = w.heap.size + 1 + 1 + 1 + 1 := by rw [← hG, ← eE]; simp
  have r1 : RelAt (w.heap.size + 1 + 1 + 1) (fun _ => false) 0 G := by rw [← hG, ← eE]; exact RelAt.new _
  have bG : Below E.heap.size E G := by rw [← hG]; exact (Below.refl _ _).alloc (Nat.le_refl _) _
  rw [hG] at hW
  have b3 : Blk W (w.heap.size + 1 + 1 + 1 + 1) #[.map (some (w.heap.size + 1 + 1 + 1))] 26 := by rw [← hW, ← eG]; exact Blk.new _ _ _
  have bW : Below G.heap.size G W := by rw [← hW]; exact (Below.refl _ _).alloc (Nat.le_refl _) _
  have qG := bG.trans (bW.mono (by omega))
  have qE := bE.trans (qG.mono (by omega))
  have qC := bC.trans (qE.mono (by omega))
  have qA := bA.trans (qC.mono (by omega))
  exact ⟨⟨h.below qA, s1.below qE, r1.below bW, b1.of_below qC, b2.of_below qG, b3, by omega, by omega, by omega⟩, qA⟩
end Go.Proofs.Ytnclobnnnihpfaa
