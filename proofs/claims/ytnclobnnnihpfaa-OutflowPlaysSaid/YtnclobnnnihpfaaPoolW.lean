/- A pool of identifiers: the walks of its methods. -/
import Derived.Test.YtnclobnnnihpfaaPool
namespace Go.Proofs.Ytnclobnnnihpfaa
set_option linter.unusedVariables false
open Go.RowKit Go.Maps

def PoolAt (B pb mb : Nat) (t : Int) (l : List Int) (w : World) : Prop := B ≤ pb ∧ B ≤ mb ∧ Blk w pb #[.int .i64 64, .int .i64 t, .map (some mb)] 110 ∧ Ids mb l w
/-- What a pool's methods turn. -/
def poolS (pb mb : Nat) (k : Nat) (_ : Obj) : Prop := k = pb ∨ k = mb
theorem PoolAt.below {B pb mb : Nat} {t : Int} {l : List Int} {w w' : World} (h : PoolAt B pb mb t l w) (m : Below w.heap.size w w') : PoolAt B pb mb t l w' := ⟨h.1, h.2.1, h.2.2.1.of_below m, h.2.2.2.below m⟩
theorem PoolAt.ne {B pb mb : Nat} {t : Int} {l : List Int} {w : World} (h : PoolAt B pb mb t l w) : pb ≠ mb := by
  obtain ⟨_, _, hb, hi⟩ := h
  obtain ⟨es, c, ho⟩ := hi.obj
  intro e
  subst e
  unfold Blk at hb
  rw [hb] at ho
  cases ho
theorem Ids.drewN {mb : Nat} {l : List Int} {w : World} (h : Ids mb l w) (n : Nat) : Ids mb l (w.drewN n) := Ids.same h (w' := w.drewN n) (by rfl)
set_option maxHeartbeats 400000 in
theorem pnew_any (w : World) : Calls Try.prog 24 #[.int .i64 64] w fun e w' => e = .returned (.pointer (some ⟨w.heap.size + 1, 0, none⟩)) ∧ PoolAt w.heap.size (w.heap.size + 1) w.heap.size 0 [] w' ∧ Below w.heap.size w w' := by
  have hmm := @run_makeMap Try.prog
  have hmn : min (64 : Int) 64 = 64 := by decide
  have hmx : max (1 : Int) 64 = 64 := by decide
  go_enter Try.func24, Try.ntmps24
  go_wp2
  go_ret
  refine ⟨rfl, ⟨by omega, Nat.le_refl _, ?_, (Ids.new w).below ((Below.refl _ _).alloc (Nat.le_refl _) _)⟩, ((Below.refl _ _).alloc (Nat.le_refl _) _).alloc (by simp) _⟩
  have := Blk.new (w.alloc (.map #[] 0)) #[.int .i64 64, .int .i64 0, .map (some w.heap.size)] 110
  simpa using this
set_option maxHeartbeats 400000 in
theorem pleft_any (B pb mb : Nat) (t : Int) (l : List Int) (w : World) (h : PoolAt B pb mb t l w) (hl : l.length ≤ 64) :
    Calls Try.prog 43 #[.pointer (some ⟨pb, 0, none⟩)] w fun e w' => e = .returned (.int .i64 (64 - (l.length : Int))) ∧ ∃ n, w' = w.drewN n := by
  obtain ⟨_, _, hb, hi⟩ := h
  have c0 := hb.cell 0
  have c2 := hb.cell 2
  simp only [List.getElem?_toArray, List.getElem?_cons_zero, List.getElem?_cons_succ] at c0 c2
  have hlen : ∀ nq ty, (Builtin.len_ #[39] ty #[.map (some mb)]).run Try.prog (w.drewN nq) = .ok (.int .i64 l.length) (w.drewN nq) := fun nq ty => Ids.len (Ids.drewN hi nq) ty
  have hlI : (l.length : Int) ≤ 64 := by omega
  clear hb hi
  go_enter Try.func43, Try.ntmps43
  go_wp2
  go_quiet (fail)
  go_wp2
  go_ret
  exact ⟨rfl, _, rfl⟩

/-- The identifier that was taken last, as the world has it. -/
def takenOf (pb : Nat) (w : World) : Int := match w.cell? ⟨pb, 1, none⟩ with
  | some (.int _ a) => a
  | _ => 0
theorem PoolAt.takenOf {B pb mb : Nat} {t : Int} {l : List Int} {w : World} (h : PoolAt B pb mb t l w) : Go.Proofs.Ytnclobnnnihpfaa.takenOf pb w = t := by
  unfold Go.Proofs.Ytnclobnnnihpfaa.takenOf
  rw [h.2.2.1.cell 1]
  rfl
theorem PoolAt.set {B pb mb : Nat} {t t' : Int} {l : List Int} {w : World} (h : PoolAt B pb mb t l w) : PoolAt B pb mb t' l (w.setCell ⟨pb, 1, none⟩ (.int .i64 t')) :=
  ⟨h.1, h.2.1, h.2.2.1.set 1 _, h.2.2.2.same (Below.heap_setCell _ _ _ _ (Ne.symm h.ne))⟩
theorem PoolAt.drewN {B pb mb : Nat} {t : Int} {l : List Int} {w : World} (h : PoolAt B pb mb t l w) (n : Nat) : PoolAt B pb mb t l (w.drewN n) := ⟨h.1, h.2.1, h.2.2.1, h.2.2.2.drewN n⟩
theorem Fr.drewN {B : Nat} {S : Nat → Obj → Prop} {a b : World} (h : Fr B S a b) (n : Nat) : Fr B S a (b.drewN n) := ⟨⟨h.below.os, h.below.tape, h.below.output, h.below.size, h.below.block⟩, h.keep⟩
set_option maxHeartbeats 1000000 in
set_option maxRecDepth 100000 in
theorem ptake_any (B pb mb : Nat) (t : Int) (l : List Int) (w : World) (h : PoolAt B pb mb t l w) (hl : l.length ≤ 63) (h0 : 0 ≤ t) (h1 : t ≤ 65535) :
    Calls Try.prog 40 #[.pointer (some ⟨pb, 0, none⟩)] w fun e w' => e = .returned (.tuple #[.int .i64 (nextId l t), .int .u8 0]) ∧ PoolAt B pb mb (nextId l t) (l ++ [nextId l t]) w' ∧ Fr B (poolS pb mb) w w' := by
  have CL := Lib.hid (pleft_any B pb mb t l w h (by omega))
  have H := Lib.hid h
  have hne : ((64 : Int) - (l.length : Int) == 0) = false := by rw [beq_eq_false_iff_ne]; omega
  clear h
  go_enter Try.func40, Try.ntmps40
  go_wp2_with (go_at_call 43; refine CL.out.mono ?_; rintro e w1 ⟨rfl, n1, rfl⟩)
  have H1 := Lib.hid (H.out.drewN n1)
  have F1 := Lib.hid ((Fr.refl B (poolS pb mb) w).drewN n1)
  obtain ⟨w1, hw1⟩ : ∃ w1, w.drewN n1 = w1 := ⟨_, rfl⟩
  rw [hw1] at H1 F1 ⊢
  clear hw1 CL hne
  go_loopw [] (fun wr => ∃ t' : Int, 0 ≤ t' ∧ t' ≤ 65535 ∧ Hid (PoolAt B pb mb t' l wr) ∧ Hid (nextId l t' = nextId l t) ∧ Hid (Fr B (poolS pb mb) w wr)) (fun wr => idLeft l (takenOf pb wr))
  case atStart => exact ⟨t, h0, h1, H1, Lib.hid rfl, F1⟩
  case round =>
    obtain ⟨t', h0', h1', HP, HN, HF⟩ := hrel
    have hb := HP.out.2.2.1
    have c1 := hb.cell 1
    have f1 := hb.frozen 1
    simp only [List.getElem?_toArray, List.getElem?_cons_zero, List.getElem?_cons_succ] at c1
    clear hb
    have hbd := idStep_bd t'
    have HE := Lib.hid (show t' % 65535 + 1 = idStep t' from rfl)
    obtain ⟨s, hs⟩ : ∃ s, idStep t' = s := ⟨_, rfl⟩
    have HS := Lib.hid hs
    rw [hs] at hbd HE
    clear hs
    obtain ⟨b, hb⟩ : ∃ b, decide (s ∈ l) = b := ⟨_, rfl⟩
    have HP1 := Lib.hid (HP.out.set (t' := s))
    have HF1 := Lib.hid (HF.out.set HP.out.2.2.1 HP.out.1 (fun _ _ => .inl rfl) 1 (.int .i64 s))
    obtain ⟨Z, hZ⟩ : ∃ Z, wr.setCell ⟨pb, 1, none⟩ (.int .i64 s) = Z := ⟨_, rfl⟩
    rw [hZ] at HP1 HF1
    have hlk : ∀ nq, (Instr.lookup 39 (.map (some mb)) (.int .i64 s) false).run Try.prog (Z.drewN nq) = .ok (.bool b) (Z.drewN nq) := fun nq => by
      rw [← hb]; exact (HP1.out.drewN nq).2.2.2.look (wf_id (by omega) hbd.2)
    have HB := Lib.hid hb
    clear hb
    go_wp2
    rw [HE.out, hZ]
    clear hZ c1 f1
    have hb1 := HP1.out.2.2.1
    have c1 := hb1.cell 1
    have c2 := hb1.cell 2
    simp only [List.getElem?_toArray, List.getElem?_cons_zero, List.getElem?_cons_succ] at c1 c2
    clear hb1
    cases b
    · have hn : s ∉ l := fun c => by have := HB.out; simp [c] at this
      go_quiet (fail)
      have HQ := Lib.hid (HP1.out.drewN nq)
      have HFQ := Lib.hid (HF1.out.drewN nq)
      obtain ⟨Y, hY⟩ : ∃ Y, Z.drewN nq = Y := ⟨_, rfl⟩
      have c1' : Y.cell? ⟨pb, 1, none⟩ = some (.int .i64 s) := by rw [← hY]; exact c1
      have c2' : Y.cell? ⟨pb, 2, none⟩ = some (.map (some mb)) := by rw [← hY]; exact c2
      rw [hY] at HQ HFQ ⊢
      clear c1 c2 hY hlk HP1 HF1
      go_wp2
      go_still_tail 8, (by kernel_rfl)
      change wpList _ _ _ _ _ Y.drew
      have HI := Lib.hid (HQ.out.2.2.2.drewN 1)
      change Hid (Ids mb l Y.drew) at HI
      obtain ⟨w2, hr2, hI2, hg2⟩ := HI.out.store (x := s) (wf_id (by omega) hbd.2) hn (by omega)
      have hp2 : Hid (PoolAt B pb mb s (l ++ [s]) w2) := Lib.hid ⟨HQ.out.1, HQ.out.2.1, Blk.grown (w := Y.drew) HQ.out.2.2.1 hg2 (fun c => HQ.out.ne (by injection c with c; exact c.symm)), hI2⟩
      have hf2 : Hid (Fr B (poolS pb mb) w w2) := Lib.hid (HFQ.out.drew.grown hg2 (Nat.le_trans HQ.out.2.1 (Nat.le_of_lt HI.out.lt)) (fun k hk => by injection hk with hk; subst hk; exact HQ.out.2.1) (fun k o hk _ => by injection hk with hk; exact .inl (.inr hk.symm)))
      have d1 : w2.cell? ⟨pb, 1, none⟩ = some (.int .i64 s) := hp2.out.2.2.1.cell 1
      clear hI2 hg2 c1' c2' HI
      go_wp2
      go_ret2
      have e : nextId l t = s := by rw [← HN.out, nextId_here (by rw [HS.out]; exact hn), HS.out]
      rw [e]
      exact ⟨rfl, hp2.out, hf2.out⟩
    · have hin : s ∈ l := by have := HB.out; simpa using this
      go_quiet (fail)
      go_wp2
      go_roundw
      case rel =>
        refine ⟨s, by omega, hbd.2, Lib.hid (HP1.out.drewN _), Lib.hid ?_, Lib.hid (HF1.out.drewN _)⟩
        rw [← HN.out, nextId_step (t := t') hl (by rw [HS.out]; exact hin), HS.out]
      case measure =>
        rw [PoolAt.takenOf (HP1.out.drewN _), PoolAt.takenOf HP.out]
        have := idLeft_step (t := t') hl (by rw [HS.out]; exact hin)
        rw [HS.out] at this
        exact this
set_option maxHeartbeats 1000000 in
set_option maxRecDepth 100000 in
theorem pfree_any (B pb mb : Nat) (t x : Int) (l : List Int) (w : World) (h : PoolAt B pb mb t l w) (hx : x ∈ l) (hd : l.Nodup) (h0 : 0 ≤ x) (h1 : x ≤ 65535) :
    Calls Try.prog 38 #[.pointer (some ⟨pb, 0, none⟩), .int .i64 x] w fun e w' => e = .returned (.bool true) ∧ PoolAt B pb mb t (l.erase x) w' ∧ Fr B (poolS pb mb) w w' := by
  have H := Lib.hid h
  have c2 := h.2.2.1.cell 2
  simp only [List.getElem?_toArray, List.getElem?_cons_zero, List.getElem?_cons_succ] at c2
  have hlk := h.2.2.2.look (x := x) (wf_id h0 h1)
  rw [show decide (x ∈ l) = true from by simpa using hx] at hlk
  clear h
  obtain ⟨w2, hr2, hI2, hg2⟩ := H.out.2.2.2.drop (x := x) (wf_id h0 h1) hx hd 0
  have hp2 : Hid (PoolAt B pb mb t (l.erase x) w2) := Lib.hid ⟨H.out.1, H.out.2.1, H.out.2.2.1.grown hg2 (fun c => H.out.ne (by injection c with c; exact c.symm)), hI2⟩
  have hf2 : Hid (Fr B (poolS pb mb) w w2) := Lib.hid ((Fr.refl B _ w).grown hg2 (Nat.le_trans H.out.2.1 (Nat.le_of_lt H.out.2.2.2.lt)) (fun k hk => by injection hk with hk; subst hk; exact H.out.2.1) (fun k o hk _ => by injection hk with hk; exact .inl (.inr hk.symm)))
  clear hI2 hg2
  go_enter Try.func38, Try.ntmps38
  go_wp2
  go_ret
  exact ⟨rfl, hp2.out, hf2.out⟩
end Go.Proofs.Ytnclobnnnihpfaa
