/- The document's pool (aqueductref13): Take. -/
import Derived.Test.YtnclobnnnihpfaaRdU
namespace Go.Proofs.Ytnclobnnnihpfaa
set_option linter.unusedVariables false
open Go.RowKit Go.Maps
theorem idDist_le (l : List Int) : ∀ (n : Nat) (t : Int), idDist l n t ≤ n
  | 0, t => Nat.zero_le _
  | n + 1, t => by
    unfold idDist
    split
    · have := idDist_le l n (idStep t); omega
    · omega
theorem idLeft_le (l : List Int) (t : Int) : idLeft l t ≤ 64 := idDist_le l 64 t
theorem DPool.drewN {B pb : Nat} {t : Int} {l L : List Int} {vl : Value} {w : World} (h : DPool B pb t l vl L w) (n : Nat) : DPool B pb t l vl L (w.drewN n) := ⟨h.hP, h.blk, h.ls.drewN n, h.pm⟩
theorem DPool.set {B pb : Nat} {t t' : Int} {l L : List Int} {vl : Value} {w : World} (h : DPool B pb t l vl L w) : DPool B pb t' l vl L (w.setCell ⟨pb, 1, none⟩ (.int .i64 t')) :=
  ⟨h.hP, h.blk.set 1 _, h.ls.set 1 _ (h.ls.ne h.blk (by decide)), h.pm⟩
theorem rdPost_mk {B rp : Nat} {t : Int} {l0 L : List Int} {r : Value} {w w2 : World} {e : Ending} {v' : Value} (he : e = .returned r) (h : DPool B rp t l0 v' L w2) (hf : Fr B (onlyS rp) w w2) : RdPost B rp t l0 L r w e w2 := ⟨he, v', h, hf⟩
set_option maxHeartbeats 2000000 in
theorem rtake_any (B pb : Nat) (t : Int) (l L : List Int) (v : Value) (w : World) (h : DPool B pb t l v L w) (hl : l.length ≤ 63) (h0 : 0 ≤ t) (h1 : t ≤ 65535) :
    Calls Try.prog 42 #[.pointer (some ⟨pb, 0, none⟩)] w (RdPost B pb (nextId l t) (l ++ [nextId l t]) (rput (nextId l t) L) (.tuple #[.int .i64 (nextId l t), .int .i64 0]) w) := by
  obtain ⟨ao, cap, rfl, hlc, hcm, -⟩ := h.ls.form
  have hL : L.length = l.length := h.pm.length_eq
  have c0 := h.blk.cell 0
  have c1 := h.blk.cell 1
  have c2 := h.blk.cell 2
  simp only [List.getElem?_toArray, List.getElem?_cons_zero, List.getElem?_cons_succ] at c0 c1 c2
  have hLI : (L.length : Int) < 64 := by omega
  have H := Lib.hid h
  have HN := Lib.hid (nextId_perm h.pm t)
  have HLL := Lib.hid hL
  clear h hL
  go_enter Try.func42, Try.ntmps42
  go_wp2
  go_quiet (fail)
  have HQ := Lib.hid (H.out.drewN nq)
  have FQ := Lib.hid ((Fr.refl B (onlyS pb) w).drewN nq)
  obtain ⟨Y, hY⟩ : ∃ Y, w.drewN nq = Y := ⟨_, rfl⟩
  have c1' : Y.cell? ⟨pb, 1, none⟩ = some (.int .i64 t) := by rw [← hY]; exact c1
  have f1 : Y.frozen? ⟨pb, 1, none⟩ = false := by rw [← hY]; exact H.out.blk.frozen 1
  rw [hY] at HQ FQ ⊢
  clear c0 c1 c2 hY
  go_wp2
  go_loopw [4, 5] (fun iv kv wr => ∃ (t' : Int) (k : Nat), iv = .int .i64 t' ∧ kv = .int .i64 k ∧ 0 ≤ t' ∧ t' ≤ 65535 ∧ Hid (nextId L t' = nextId L t) ∧ k + idLeft L t' ≤ idLeft L t ∧ wr = Y) (fun _ kv _ => 65 - (intOf kv).toNat)
  case atStart => exact ⟨t, 0, rfl, rfl, h0, h1, Lib.hid rfl, by omega, rfl⟩
  case round =>
    obtain ⟨t', k, rfl, rfl, h0', h1', hN, hK, rfl⟩ := hrel
    have hle := idLeft_le L t
    have hkI : (k : Int) ≤ 64 := by omega
    have KL := Lib.hid hK
    clear hK hle
    have hL63 : L.length ≤ 63 := by have := HLL.out; omega
    by_cases hin : idStep t' ∈ L
    · have HI := Lib.hid hin
      have CI : ∀ s, s = idStep t' → Hid (Calls Try.prog 44 #[.pointer (some ⟨pb, 0, none⟩), .int .i64 s] wr fun e w' => e = .returned (.bool true) ∧ w' = wr) := fun s hs => Lib.hid ((rin_any B pb 64 t s _ L wr HQ.out.blk HQ.out.ls (by omega)).mono (by
        rintro e w' ⟨rfl, rfl⟩
        exact ⟨by rw [decide_eq_true (by rw [hs]; exact HI.out)], rfl⟩))
      have hst := idLeft_step (t := t') hL63 hin
      have hnx := nextId_step (t := t') hL63 hin
      have HST := Lib.hid hst
      have HNX := Lib.hid hnx
      have hbd := idStep_bd t'
      clear hin hst hnx
      by_cases hw : t' < 65535
      · have e1 : t' + 1 = idStep t' := by unfold idStep; omega
        have C1 := CI (t' + 1) e1
        have E1 := Lib.hid e1
        clear CI e1 hbd
        go_wp2_with (first | (go_at_call 44; (with_reducible refine C1.out.mono ?_); rintro e w2 ⟨rfl, rfl⟩) | (fail))
        go_roundw
        case rel => exact ⟨t' + 1, k + 1, rfl, by go_num, by omega, by omega, Lib.hid (by rw [E1.out, ← HNX.out]; exact hN.out), by rw [E1.out]; have := HST.out; have := KL.out; omega, trivial⟩
        case measure => have := KL.out; simp [intOf]; omega
      · have e1 : (1 : Int) = idStep t' := by unfold idStep; omega
        have C1 := CI 1 e1
        have E1 := Lib.hid e1
        clear CI e1 hbd
        go_wp2_with (first | (go_at_call 44; (with_reducible refine C1.out.mono ?_); rintro e w2 ⟨rfl, rfl⟩) | (fail))
        go_roundw
        case rel => exact ⟨1, k + 1, rfl, by go_num, by omega, by omega, Lib.hid (by rw [E1.out, ← HNX.out]; exact hN.out), by rw [E1.out]; have := HST.out; have := KL.out; omega, trivial⟩
        case measure => have := KL.out; simp [intOf]; omega
    · have HI := Lib.hid hin
      have CI : ∀ s, s = idStep t' → Hid (Calls Try.prog 44 #[.pointer (some ⟨pb, 0, none⟩), .int .i64 s] wr fun e w' => e = .returned (.bool false) ∧ w' = wr) := fun s hs => Lib.hid ((rin_any B pb 64 t s _ L wr HQ.out.blk HQ.out.ls (by omega)).mono (by
        rintro e w' ⟨rfl, rfl⟩
        exact ⟨by rw [decide_eq_false (by rw [hs]; exact HI.out)], rfl⟩))
      have hnx := nextId_here (t := t') hin
      have HNX := Lib.hid (show idStep t' = nextId l t from by rw [← hnx, hN.out, HN.out])
      clear hin hnx
      have CP : ∀ s, Hid (Calls Try.prog 45 #[.pointer (some ⟨pb, 0, none⟩), .int .i64 s] (wr.setCell ⟨pb, 1, none⟩ (.int .i64 s)) (RdPost B pb s (l ++ [s]) (rput s L) (.tuple #[]) (wr.setCell ⟨pb, 1, none⟩ (.int .i64 s)))) := fun s => Lib.hid (rput_any B pb s s l L _ _ (HQ.out.set (t' := s)) (by omega))
      have FS : ∀ s, Hid (Fr B (onlyS pb) w (wr.setCell ⟨pb, 1, none⟩ (.int .i64 s))) := fun s => Lib.hid (FQ.out.set HQ.out.blk HQ.out.hP (fun _ _ => rfl) 1 _)
      by_cases hw : t' < 65535
      · have e1 : t' + 1 = idStep t' := by unfold idStep; omega
        have C1 := CI (t' + 1) e1
        have P1 := CP (t' + 1)
        have F1 := FS (t' + 1)
        have E1 := Lib.hid (e1.trans HNX.out)
        clear CI e1 CP FS
        go_wp2_with (first | (go_at_call 44; (with_reducible refine C1.out.mono ?_); rintro e w2 ⟨rfl, rfl⟩) | (go_at_call 45; (with_reducible refine P1.out.mono ?_); rintro e w2 ⟨rfl, v2, hd, hf⟩; have HD := Lib.hid hd; have HF := Lib.hid hf; clear hd hf) | (fail))
        go_ret2
        rw [← E1.out]
        exact rdPost_mk rfl HD.out (F1.out.trans HF.out)
      · have e1 : (1 : Int) = idStep t' := by unfold idStep; omega
        have C1 := CI 1 e1
        have P1 := CP 1
        have F1 := FS 1
        have E1 := Lib.hid (e1.trans HNX.out)
        clear CI e1 CP FS
        go_wp2_with (first | (go_at_call 44; (with_reducible refine C1.out.mono ?_); rintro e w2 ⟨rfl, rfl⟩) | (go_at_call 45; (with_reducible refine P1.out.mono ?_); rintro e w2 ⟨rfl, v2, hd, hf⟩; have HD := Lib.hid hd; have HF := Lib.hid hf; clear hd hf) | (fail))
        go_ret2
        rw [← E1.out]
        exact rdPost_mk rfl HD.out (F1.out.trans HF.out)
end Go.Proofs.Ytnclobnnnihpfaa
