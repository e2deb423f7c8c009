/- Parts of the proof, joined: Gp6, Gp7, PkP2, TextMore, TextApp, GetC, Gp8, Gp9, Gp10. -/
import Derived.Test.YtlnanenfpapfkaaDoorH5P24
import Derived.Test.YtlnanenfpapfkaaDoorH5P3
import Derived.Test.YtlnanenfpapfkaaDoorH5P1
/- What lists are read back as: plain. -/
namespace Go.Proofs.YtlnanenfpapfkaaDoor
set_option linter.unusedVariables false
set_option linter.unusedSimpArgs false
open Go.RowKit Pl Go.PlainAid

section
variable {s : ByteArray}
theorem beg_le {o : Ot} (h : Beg s o) : o.s.size ≤ s.size := by have := h.1; have e : o.s.data.toList.length = o.s.size := rfl; omega
theorem rItems_stop {f : Nat} {p : Pk} {a : Int} (h : ¬ a < s.size) : rItems s f p a = .ok (p, a) := by
  cases f with
  | zero => show (if a < (s.size : Int) then (.error 149 : RR Pk) else .ok (p, a)) = _; rw [if_neg h]
  | succ f => show (if a < (s.size : Int) then bindR (rItem s p a) fun p a => rItems s f p a else .ok (p, a)) = _; rw [if_neg h]
theorem rItems_step {f : Nat} {p : Pk} {a : Int} (h : a < s.size) : rItems s (f + 1) p a = bindR (rItem s p a) fun p a => rItems s f p a := by
  show (if a < (s.size : Int) then bindR (rItem s p a) fun p a => rItems s f p a else .ok (p, a)) = _; rw [if_pos h]
theorem fwd_items {α : Type} (W : Ot → α → Ot) (add : Pk → α → Pk) (P : Pk → Prop)
    (hW : ∀ o x, (W o x).c = 0 → Beg s (W o x) → o.c = 0 ∧ Beg s o ∧ o.s.size < (W o x).s.size ∧ ∀ p, P p → rItem s p (o.s.size : Int) = .ok (add p x, ((W o x).s.size : Int))) (hP : ∀ p x, P p → P (add p x)) :
    ∀ (l : List α) (o : Ot) (f : Nat) (p : Pk), P p → l.length ≤ f → (l.foldl W o).c = 0 → Beg s (l.foldl W o) → s.size = (l.foldl W o).s.size → o.c = 0 ∧ Beg s o ∧ rItems s f p (o.s.size : Int) = .ok (l.foldl add p, (s.size : Int))
  | [], o, f, p, _, _, hc, hb, hs => by
    simp only [List.foldl_nil] at hc hb hs ⊢
    exact ⟨hc, hb, by rw [rItems_stop (by omega), hs]⟩
  | x :: l, o, f, p, hp, hl, hc, hb, hs => by
    simp only [List.foldl_cons, List.length_cons] at hc hb hs hl ⊢
    obtain ⟨f, rfl⟩ : ∃ g, f = g + 1 := ⟨f - 1, by omega⟩
    obtain ⟨c1, b1, r1⟩ := fwd_items W add P hW hP l (W o x) f (add p x) (hP p x hp) (by omega) hc hb hs
    obtain ⟨c2, b2, hlt, r2⟩ := hW o x c1 b1
    have := beg_le b1
    refine ⟨c2, b2, ?_⟩
    rw [rItems_step (by omega), r2 p hp]
    exact r1
theorem wSome_zero {o : Ot} {n : Int} (h : (wSome o n).c = 0) : o.c = 0 ∧ n ≠ 0 ∧ n ≤ 64 ∧ wSome o n = o := by
  unfold wSome at h ⊢
  split at h
  · exact absurd (fail_zero.1 h).2 (by decide)
  · rename_i h0
    split at h
    · exact absurd (fail_zero.1 h).2 (by decide)
    · rename_i h1
      rw [if_neg h0, if_neg h1]
      exact ⟨h, h0, by omega, rfl⟩
theorem foldl_c {α : Type} {W : Ot → α → Ot} (hW : ∀ o x, (W o x).c = 0 → o.c = 0) : ∀ (l : List α) (o : Ot), (l.foldl W o).c = 0 → o.c = 0
  | [], o, h => h
  | x :: l, o, h => hW o x (foldl_c hW l (W o x) h)
theorem fwd_sub {o : Ot} {x : Sb} (hc : (wSub o x).c = 0) (h : Beg s (wSub o x)) : o.c = 0 ∧ Beg s o ∧ o.s.size < (wSub o x).s.size ∧ rSub s (o.s.size : Int) = .ok (x, ((wSub o x).s.size : Int)) := by
  unfold wSub at hc h ⊢
  obtain ⟨c1, b1, _, r1⟩ := fwd_num hc h
  have hl1 := rNum_lt r1 (by decide)
  obtain ⟨c2, h0, h1, e2⟩ := wQos_zero c1
  rw [e2] at c1 b1 r1 hl1 ⊢
  obtain ⟨c3, q0, q1, e3⟩ := wQos_zero c2
  rw [e3] at b1 r1 hl1 ⊢
  obtain ⟨c4, b4, r4⟩ := fwd_text c3 b1
  have hat := rText_at r4
  refine ⟨c4, b4, by omega, ?_⟩
  unfold rSub
  rw [r4]
  simp only [bindR]
  rw [r1]
  simp only [bindR]
  obtain ⟨f, q, nl, ap, hh⟩ := x
  simp only [sByte] at *
  have hq3 : q = 0 ∨ q = 1 ∨ q = 2 := by omega
  have hh3 : hh = 0 ∨ hh = 1 ∨ hh = 2 := by omega
  rcases hq3 with rfl | rfl | rfl <;> rcases hh3 with rfl | rfl | rfl <;> cases nl <;> cases ap <;> rfl
end
end Go.Proofs.YtlnanenfpapfkaaDoor

/- What packets with lists are read back as: plain. -/
namespace Go.Proofs.YtlnanenfpapfkaaDoor
set_option linter.unusedVariables false
set_option linter.unusedSimpArgs false
open Go.RowKit Pl Go.PlainAid

theorem nmb_c {k n : Int} {o : Ot} (h : (wNum k o n).c = 0) : o.c = 0 := by unfold wNum at h; exact (add_zero'.1 h).1
theorem txt_c {t : ByteArray} {o : Ot} (h : (wText o t).c = 0) : o.c = 0 := by unfold wText at h; exact (add_zero'.1 h).1
section
variable {s : ByteArray}
theorem getD_lt {a : Int} (h : (getD s a).2.2 = 0) : a < (getD s a).2.1 := by
  rcases getF_two s a with hf | hf | ⟨b, m, rfl, hf, hm, hb⟩
  · unfold getD at h; rw [hf] at h; simp at h
  · unfold getD at h; rw [hf] at h; simp at h
  · unfold getD at h ⊢
    rw [hf] at h ⊢
    simp only [ne_eq, not_true_eq_false, if_false] at h ⊢
    split at h
    · simp at h
    · rename_i h2
      rw [if_neg h2]
      show (b : Int) < ((b + 2 : Nat) : Int) + (m : Int)
      omega
theorem rText_lt {a b : Int} {t : ByteArray} (h : rText s a = .ok (t, b)) : a < b := by
  unfold rText at h
  split at h
  · rename_i h0; cases h
    unfold tget at h0 ⊢
    split at h0
    · rename_i h1; exact absurd h0 h1
    · rename_i h1
      split at h0
      · simp at h0
      · rename_i h2
        rw [if_neg h1, if_neg h2]
        exact getD_lt h0
  · cases h
theorem fwd_listsG {α : Type} (W : Ot → α → Ot) (add : Pk → α → Pk) (P : Pk → Prop)
    (hW : ∀ o x, (W o x).c = 0 → Beg s (W o x) → o.c = 0 ∧ Beg s o ∧ o.s.size < (W o x).s.size ∧ ∀ p, P p → rItem s p (o.s.size : Int) = .ok (add p x, ((W o x).s.size : Int))) (hP : ∀ p x, P p → P (add p x))
    (q : Pk) (l : List α) (hp : P { zPk with kind := q.kind, id := q.id, ps := q.ps.map nrm }) (hl : l.length ≤ 64) (hne : l.length ≠ 0)
    (hc : (l.foldl W (wProps q.kind (wId e0 q.id) q.ps)).c = 0) (hb : Beg s (l.foldl W (wProps q.kind (wId e0 q.id) q.ps))) (hs : s.size = (l.foldl W (wProps q.kind (wId e0 q.id) q.ps)).s.size) :
    rLists s { zPk with kind := q.kind } 0 = .ok (l.foldl add { zPk with kind := q.kind, id := q.id, ps := q.ps.map nrm }, (s.size : Int)) := by
  obtain ⟨c1, b1, r1⟩ := fwd_items W add P hW hP l _ 64 _ hp hl hc hb hs
  have hlt : ((wProps q.kind (wId e0 q.id) q.ps).s.size : Int) < s.size := by
    cases l with
    | nil => exact absurd rfl hne
    | cons x l =>
      obtain ⟨c4, b4, _⟩ := fwd_items W add P hW hP l (W _ x) 64 _ (hP _ x hp) (by simp only [List.length_cons] at hl; omega) hc hb hs
      obtain ⟨_, _, h4, _⟩ := hW _ x c4 b4
      have := beg_le b4
      omega
  obtain ⟨c2, b2, r2⟩ := fwd_props c1 b1
  obtain ⟨c3, b3, r3⟩ := fwd_id c2 b2
  have r3' : rId s 0 = .ok (q.id, ((wId e0 q.id).s.size : Int)) := r3
  unfold rLists
  rw [r3']
  simp only [bindR]
  rw [r2]
  simp only [bindR]
  rw [if_pos hlt]
  exact r1
theorem add_subs : ∀ (l : List Sb) (p : Pk), l.foldl (fun p x => { p with subs := p.subs ++ [x] }) p = { p with subs := p.subs ++ l }
  | [], p => by simp
  | x :: l, p => by rw [List.foldl_cons, add_subs l]; simp
theorem add_filters : ∀ (l : List ByteArray) (p : Pk), l.foldl (fun p x => { p with filters := p.filters ++ [x] }) p = { p with filters := p.filters ++ l }
  | [], p => by simp
  | x :: l, p => by rw [List.foldl_cons, add_filters l]; simp
theorem add_codes : ∀ (l : List Int) (p : Pk), l.foldl (fun p x => { p with codes := p.codes ++ [x] }) p = { p with codes := p.codes ++ l }
  | [], p => by simp
  | x :: l, p => by rw [List.foldl_cons, add_codes l]; simp
def cnLists (q : Pk) : Pk :=
  if q.kind = 8 then { zPk with kind := q.kind, id := q.id, ps := q.ps.map nrm, subs := q.subs }
  else if q.kind = 10 then { zPk with kind := q.kind, id := q.id, ps := q.ps.map nrm, filters := q.filters }
  else { zPk with kind := q.kind, id := q.id, ps := q.ps.map nrm, codes := q.codes }
theorem fwd_lists {q : Pk} (hc : (wLists e0 q).c = 0) (h : Beg s (wLists e0 q)) (hs : s.size = (wLists e0 q).s.size) : rLists s { zPk with kind := q.kind } 0 = .ok (cnLists q, (s.size : Int)) := by
  unfold wLists at hc h hs
  unfold cnLists
  by_cases h8 : q.kind = 8
  · rw [if_pos h8] at hc h hs ⊢
    unfold wSubs at hc h hs
    obtain ⟨_, n0, n1, e1⟩ := wSome_zero (foldl_c (fun o x hx => by
      unfold wSub at hx
      have a := nmb_c hx
      exact (wQos_zero (wQos_zero a).1).1 |> txt_c) _ _ hc)
    rw [e1, List.take_of_length_le (by omega)] at hc h hs
    rw [fwd_listsG wSub (fun p x => { p with subs := p.subs ++ [x] }) (fun p => p.kind = 8) (fun o x hx bx => by
      obtain ⟨a1, a2, a3, a4⟩ := fwd_sub hx bx
      refine ⟨a1, a2, a3, fun p hp => ?_⟩
      unfold rItem
      rw [if_pos hp, a4]
      rfl) (fun p x hp => hp) q q.subs h8 (by omega) (by omega) hc h hs, add_subs]
    rfl
  · rw [if_neg h8] at hc h hs ⊢
    by_cases h10 : q.kind = 10
    · rw [if_pos h10] at hc h hs ⊢
      unfold wFilters at hc h hs
      obtain ⟨_, n0, n1, e1⟩ := wSome_zero (foldl_c (fun o x hx => txt_c hx) _ _ hc)
      rw [e1, List.take_of_length_le (by omega)] at hc h hs
      rw [fwd_listsG wText (fun p x => { p with filters := p.filters ++ [x] }) (fun p => p.kind = 10) (fun o x hx bx => by
        obtain ⟨a1, a2, a4⟩ := fwd_text hx bx
        have hat := rText_lt a4
        refine ⟨a1, a2, by omega, fun p hp => ?_⟩
        unfold rItem
        rw [if_neg (by omega), if_pos hp, a4]
        rfl) (fun p x hp => hp) q q.filters h10 (by omega) (by omega) hc h hs, add_filters]
      rfl
    · rw [if_neg h10] at hc h hs ⊢
      unfold wCodes at hc h hs
      obtain ⟨_, n0, n1, e1⟩ := wSome_zero (foldl_c (fun o x hx => nmb_c hx) _ _ hc)
      rw [e1] at hc h hs
      rw [fwd_listsG (wNum 1) (fun p x => { p with codes := p.codes ++ [x] }) (fun p => p.kind ≠ 8 ∧ p.kind ≠ 10) (fun o x hx bx => by
        obtain ⟨a1, a2, _, a4⟩ := fwd_num hx bx
        have hat := rNum_lt a4 (by decide)
        refine ⟨a1, a2, by omega, fun p hp => ?_⟩
        unfold rItem
        rw [if_neg hp.1, if_neg hp.2, a4]
        rfl) (fun p x hp => hp) q q.codes ⟨h8, h10⟩ (by omega) (by omega) hc h hs, add_codes]
      rfl
end
end Go.Proofs.YtlnanenfpapfkaaDoor

/- The document's bytes of a packet are the program's: plain. -/
namespace Go.Proofs.YtlnanenfpapfkaaDoor
set_option linter.unusedVariables false
open Go.RowKit Pl

def wBody' (o : Ot) (p : Pk) : Ot :=
  if p.kind = 1 then wConnect o p else if p.kind = 2 then wConnack o p else if p.kind = 3 then wPublish o p
  else if p.kind = 4 ∨ p.kind = 5 ∨ p.kind = 6 ∨ p.kind = 7 then wEnd (wId o p.id) p
  else if p.kind = 14 ∨ p.kind = 15 then wEnd o p
  else if p.kind = 8 ∨ p.kind = 9 ∨ p.kind = 10 ∨ p.kind = 11 then wLists' o p else o
def wAll' (p : Pk) : Ot := wBody' (wHead p) p
theorem fold_c : ∀ (l : List Int) (o : Ot), o.c ≠ 0 → (l.foldl (wNum 1) o).c = o.c
  | [], o, h => rfl
  | x :: l, o, h => by
    have e : (wNum 1 o x).c = o.c := by
      show mix o.c _ = o.c
      unfold mix
      rw [if_neg h]
    show (l.foldl (wNum 1) (wNum 1 o x)).c = o.c
    rw [fold_c l _ (by rw [e]; exact h), e]
theorem codes_same (o : Ot) (l : List Int) : (wCodes' o l).c = (wCodes o l).c ∧ ((wCodes o l).c = 0 → wCodes' o l = wCodes o l) := by
  by_cases h : l.length ≤ 64
  · have e : wCodes' o l = wCodes o l := by unfold wCodes' wCodes; rw [List.take_of_length_le h]
    exact ⟨by rw [e], fun _ => e⟩
  · have hc : (wSome o l.length).c ≠ 0 := by
      unfold wSome
      rw [if_neg (by omega), if_pos (by omega)]
      show mix o.c 149 ≠ 0
      unfold mix
      split
      · decide
      · assumption
    have e1 : (wCodes' o l).c = (wSome o l.length).c := fold_c _ _ hc
    have e2 : (wCodes o l).c = (wSome o l.length).c := fold_c _ _ hc
    exact ⟨by rw [e1, e2], fun h0 => absurd (e2.symm.trans h0) hc⟩
theorem all_same (p : Pk) : (wAll' p).c = (wAll p).c ∧ ((wAll p).c = 0 → wAll' p = wAll p) := by
  unfold wAll' wAll wBody' wBody
  split
  · exact ⟨rfl, fun _ => rfl⟩
  split
  · exact ⟨rfl, fun _ => rfl⟩
  split
  · exact ⟨rfl, fun _ => rfl⟩
  split
  · exact ⟨rfl, fun _ => rfl⟩
  split
  · exact ⟨rfl, fun _ => rfl⟩
  split
  · unfold wLists' wLists
    split
    · exact ⟨rfl, fun _ => rfl⟩
    split
    · exact ⟨rfl, fun _ => rfl⟩
    exact codes_same _ _
  · exact ⟨rfl, fun _ => rfl⟩
/-- The document's flags: a Publish's QoS whole. -/
def pFlags' (p : Pk) : Int := if p.kind = 3 then bt1 p.dup 8 + 2 * p.q + bt1 p.ret 1 else kFlags p.kind
theorem mix_zero {c d : Int} (h : mix c d = 0) : c = 0 ∧ d = 0 := by
  unfold mix at h
  split at h
  · exact ⟨by assumption, h⟩
  · exact ⟨h, absurd h (by assumption)⟩
theorem num_c {k : Int} {o : Ot} {n : Int} (h : (wNum k o n).c = 0) : o.c = 0 ∧ fixC k n = 0 := mix_zero h
theorem text_c {o : Ot} {t : ByteArray} (h : (wText o t).c = 0) : o.c = 0 ∧ tputC t = 0 := mix_zero h
theorem data_c {o : Ot} {t : ByteArray} (h : (wData o t).c = 0) : o.c = 0 ∧ dataC t = 0 := mix_zero h
theorem add_c {o : Ot} {t : ByteArray} {d : Int} (h : (o.add t d).c = 0) : o.c = 0 ∧ d = 0 := mix_zero h
theorem fail_c {o : Ot} {d : Int} (h : (o.fail d).c = 0) : o.c = 0 ∧ d = 0 := mix_zero h
theorem qos_c {o : Ot} {n : Int} (h : (wQos o n).c = 0) : o.c = 0 ∧ 0 ≤ n ∧ n ≤ 2 ∧ wQos o n = o := by
  by_cases hn : n < 0 ∨ 2 < n
  · unfold wQos at h
    rw [if_pos hn] at h
    exact absurd (fail_c h).2 (by decide)
  · have e : wQos o n = o := by unfold wQos; rw [if_neg hn]
    exact ⟨by rw [e] at h; exact h, by omega, by omega, e⟩
theorem id_c {o : Ot} {n : Int} (h : (wId o n).c = 0) : o.c = 0 ∧ 1 ≤ n ∧ n ≤ 65535 ∧ wId o n = wNum 2 o n := by
  by_cases hn : n < 1 ∨ 65535 < n
  · unfold wId at h
    rw [if_pos hn] at h
    exact absurd (fail_c h).2 (by decide)
  · have e : wId o n = wNum 2 o n := by unfold wId; rw [if_neg hn]
    exact ⟨(num_c (by rw [← e]; exact h)).1, by omega, by omega, e⟩
theorem props_c {k : Int} {o : Ot} {L : List Pp} (h : (wProps k o L).c = 0) : o.c = 0 ∧ ppC L = 0 ∧ okAll k L = true ∧ wProps k o L = o.add (ppS L) (ppC L) := by
  by_cases hn : okAll k L = true
  · have e : wProps k o L = o.add (ppS L) (ppC L) := by unfold wProps; rw [if_pos hn]
    rw [e] at h
    exact ⟨(add_c h).1, (add_c h).2, hn, e⟩
  · unfold wProps at h
    rw [if_neg hn] at h
    exact absurd (fail_c h).2 (by decide)
theorem some_c {o : Ot} {n : Int} (h : (wSome o n).c = 0) : o.c = 0 ∧ n ≠ 0 ∧ n ≤ 64 ∧ wSome o n = o := by
  by_cases h0 : n = 0
  · unfold wSome at h
    rw [if_pos h0] at h
    exact absurd (fail_c h).2 (by decide)
  · by_cases h1 : 64 < n
    · unfold wSome at h
      rw [if_neg h0, if_pos h1] at h
      exact absurd (fail_c h).2 (by decide)
    · have e : wSome o n = o := by unfold wSome; rw [if_neg h0, if_neg h1]
      exact ⟨by rw [e] at h; exact h, h0, by omega, e⟩
/-- A Publish without a code has a QoS. -/
theorem publish_q {p : Pk} (h3 : p.kind = 3) (h : (wAll p).c = 0) : 0 ≤ p.q ∧ p.q ≤ 2 ∧ (p.dup = true → p.q ≠ 0) := by
  unfold wAll wBody at h
  rw [if_neg (by omega), if_neg (by omega), if_pos h3] at h
  unfold wPublish at h
  have h1 := (props_c (add_c h).1).1
  have h2 : (wText (wHead p) p.topic).c = 0 := by
    split at h1
    · exact (id_c h1).1
    · exact h1
  have h4 := (text_c h2).1
  unfold wHead at h4
  rw [if_pos h3] at h4
  split at h4
  · exact absurd (fail_c h4).2 (by decide)
  · rename_i hd
    obtain ⟨_, q0, q1, _⟩ := qos_c h4
    exact ⟨q0, q1, fun hdt hq => hd ⟨hdt, hq⟩⟩
theorem flags_same {p : Pk} (h : (wAll p).c = 0) : pFlags' p = pFlags p := by
  unfold pFlags' pFlags
  split
  · rename_i h3
    obtain ⟨q0, q1, _⟩ := publish_q h3 h
    have : p.q % 4 = p.q := Int.emod_eq_of_lt q0 (by omega)
    rw [this]
  · rfl
end Go.Proofs.YtlnanenfpapfkaaDoor

/- Plain facts: a character hangs on its own bytes alone; cuts are texts; texts joined; no program in sight. -/
namespace Go.Proofs.YtlnanenfpapfkaaDoor.Pl
open Go.PlainAid (bt bt_nonneg bt_le get_bt bt_end)

theorem tl_same {s s' : ByteArray} {a a' : Nat} (h : a < s.size) (h' : a' < s'.size) (hb : bt s' a' = bt s a) (lo hi : Int) : tl s' a' lo hi = tl s a lo hi := by
  unfold tl
  rw [hb]
  simp [h, h']
/-- A character hangs on its own bytes alone. -/
theorem nx_local {s s' : ByteArray} {a a' : Nat} (h : nx s a ≠ 0) (hb : ∀ k, k < nx s a → a' + k < s'.size ∧ bt s' (a' + k) = bt s (a + k)) : nx s' a' = nx s a := by
  have hle := nx_le s a h
  have h0 := (hb 0 (by omega))
  rw [Nat.add_zero, Nat.add_zero] at h0
  have hle' := hle
  unfold nx at h hle' hb
  by_cases c1 : 1 ≤ bt s a ∧ bt s a ≤ 127
  · unfold nx
    rw [h0.2, if_pos c1, if_pos c1]
  · rw [if_neg c1] at h hle' hb
    by_cases c2 : 194 ≤ bt s a ∧ bt s a ≤ 223 ∧ tl s (a + 1) 128 191 = true
    · rw [if_pos c2] at h hle' hb
      have h1 := hb 1 (by omega)
      have e1 := fun lo hi => tl_same (show a + 1 < s.size by omega) h1.1 h1.2 lo hi
      unfold nx
      rw [h0.2, if_neg c1, if_neg c1, e1, if_pos c2, if_pos c2]
    · rw [if_neg c2] at h hle' hb
      by_cases c3 : 224 ≤ bt s a ∧ bt s a ≤ 239 ∧ tl s (a + 1) 128 191 = true ∧ tl s (a + 2) 128 191 = true
      · rw [if_pos c3] at h hle' hb
        by_cases d3 : (bt s a = 224 ∧ tl s (a + 1) 160 191 = false) ∨ (bt s a = 237 ∧ tl s (a + 1) 128 159 = false)
        · rw [if_pos d3] at h; exact absurd rfl h
        · rw [if_neg d3] at hle' hb
          have h1 := hb 1 (by omega)
          have h2 := hb 2 (by omega)
          have e1 := fun lo hi => tl_same (show a + 1 < s.size by omega) h1.1 h1.2 lo hi
          have e2 := fun lo hi => tl_same (show a + 2 < s.size by omega) h2.1 h2.2 lo hi
          unfold nx
          rw [h0.2, e1, e1, e1, e2, if_neg c1, if_neg c1, if_neg c2, if_neg c2, if_pos c3, if_pos c3]
      · rw [if_neg c3] at h hle' hb
        by_cases c4 : 240 ≤ bt s a ∧ bt s a ≤ 244 ∧ tl s (a + 1) 128 191 = true ∧ tl s (a + 2) 128 191 = true ∧ tl s (a + 3) 128 191 = true
        · rw [if_pos c4] at h hle' hb
          by_cases d4 : (bt s a = 240 ∧ tl s (a + 1) 144 191 = false) ∨ (bt s a = 244 ∧ tl s (a + 1) 128 143 = false)
          · rw [if_pos d4] at h; exact absurd rfl h
          · rw [if_neg d4] at hle' hb
            have h1 := hb 1 (by omega)
            have h2 := hb 2 (by omega)
            have h3 := hb 3 (by omega)
            have e1 := fun lo hi => tl_same (show a + 1 < s.size by omega) h1.1 h1.2 lo hi
            have e2 := fun lo hi => tl_same (show a + 2 < s.size by omega) h2.1 h2.2 lo hi
            have e3 := fun lo hi => tl_same (show a + 3 < s.size by omega) h3.1 h3.2 lo hi
            unfold nx
            simp only [h0.2, e1, e2, e3]
        · rw [if_neg c4] at h; exact absurd rfl h

theorem bt_extract (s : ByteArray) {a p : Nat} (h : a < p) (hp : p ≤ s.size) : bt (s.extract 0 p) a = bt s a := by
  have hs : s.size = s.data.size := rfl
  rw [← get!_bt, ← get!_bt]
  congr 2
  show (s.extract 0 p).data[a]! = s.data[a]!
  rw [ByteArray.data_extract, getElem!_pos (s.data.extract 0 p) a (by rw [Array.size_extract]; omega), getElem!_pos s.data a (by omega), Array.getElem_extract]
  congr 1
  omega
theorem size_cut (s : ByteArray) {p : Nat} (hp : p ≤ s.size) : (s.extract 0 p).size = p := by rw [ByteArray.size_extract]; omega
/-- A character that lies whole in a beginning is a character there. -/
theorem nx_pre {s : ByteArray} {a p : Nat} (hp : p ≤ s.size) (h : nx s a ≠ 0) (ha : a + nx s a ≤ p) : nx (s.extract 0 p) a = nx s a :=
  nx_local h fun k hk => ⟨by rw [size_cut s hp]; omega, bt_extract s (by omega) hp⟩
/-- A character of a beginning is one of the whole. -/
theorem nx_of_pre {s : ByteArray} {a p : Nat} (hp : p ≤ s.size) (h : nx (s.extract 0 p) a ≠ 0) : nx s a = nx (s.extract 0 p) a := by
  have hle := nx_le _ _ h
  rw [size_cut s hp] at hle
  exact nx_local h fun k hk => ⟨by omega, (bt_extract s (by omega) hp).symm⟩

theorem cutP_ge (s : ByteArray) (most : Int) : ∀ (f a : Nat), a ≤ cutP s most f a := by
  intro f
  induction f with
  | zero => intro a; exact Nat.le_refl _
  | succ f ih =>
    intro a
    unfold cutP
    split
    · exact Nat.le_refl _
    · have := ih (a + nx s a); omega
theorem cutP_most (s : ByteArray) (most : Int) : ∀ (f a : Nat), (cutP s most f a : Int) ≤ max (a : Int) most := by
  intro f
  induction f with
  | zero => intro a; exact Int.le_max_left _ _
  | succ f ih =>
    intro a
    unfold cutP
    split
    · exact Int.le_max_left _ _
    · rename_i hc
      have := ih (a + nx s a)
      omega
/-- Where the cut ends, the longest beginning does: nothing stands behind, or no character, or one too many. -/
theorem cutP_stop (s : ByteArray) (most : Int) : ∀ (f a : Nat), s.size ≤ a + f → s.size ≤ cutP s most f a ∨ nx s (cutP s most f a) = 0 ∨ most < (cutP s most f a : Int) + nx s (cutP s most f a) := by
  intro f
  induction f with
  | zero => intro a h; exact .inl (by unfold cutP; omega)
  | succ f ih =>
    intro a h
    unfold cutP
    split
    · assumption
    · rename_i hc
      exact ih _ (by have : nx s a ≠ 0 := fun h0 => hc (.inr (.inl h0)); omega)
/-- A beginning up tu a place that the cut goes through has no fault ahead of it; and if it has none at all, none from the cut on. -/
theorem flt_cut (s : ByteArray) (most : Int) : ∀ (f a q g : Nat), cutP s most f a ≤ q → q ≤ s.size → a ≤ s.size → q ≤ a + g →
    ∃ g', q ≤ cutP s most f a + g' ∧ flt (s.extract 0 q) g a = flt (s.extract 0 q) g' (cutP s most f a) := by
  intro f
  induction f with
  | zero => intro a q g h1 h2 h3 h4; exact ⟨g, h4, rfl⟩
  | succ f ih =>
    intro a q g h1 h2 h3 h4
    by_cases hc : s.size ≤ a ∨ nx s a = 0 ∨ most < (a : Int) + nx s a
    · rw [cutP_end hc] at h1 ⊢
      exact ⟨g, h4, rfl⟩
    · have hn : nx s a ≠ 0 := fun h0 => hc (.inr (.inl h0))
      have he : cutP s most (f + 1) a = cutP s most f (a + nx s a) := by
        conv => lhs; unfold cutP
        rw [if_neg hc]
      rw [he] at h1 ⊢
      have hge := cutP_ge s most f (a + nx s a)
      have hx := nx_pre h2 hn (by omega)
      have hsz := size_cut s h2
      obtain ⟨g', hg, hf⟩ := ih (a + nx s a) q (g - 1) h1 h2 (nx_le s a hn) (by omega)
      refine ⟨g', hg, ?_⟩
      rw [flt_step (by omega) (by omega) (by rw [hx]; exact hn), hx, hf]
/-- What the cut leaves is a text. -/
theorem cut_text (s : ByteArray) (most : Int) : (flt (cutS s most) (cutS s most).size 0) = (0, false) := by
  have hle := cutP_le s most s.size 0 (Nat.zero_le _)
  obtain ⟨g', _, hf⟩ := flt_cut s most s.size 0 (cutP s most s.size 0) (cutS s most).size (Nat.le_refl _) hle (Nat.zero_le _) (by unfold cutS; rw [size_cut s hle]; omega)
  unfold cutS at hf ⊢
  rw [hf]
  exact flt_end (by rw [size_cut s hle]; exact Nat.le_refl _)
/-- With n bytes more it is none, or too long. -/
theorem cut_longest (s : ByteArray) (most : Int) (n : Nat) (hn : 1 ≤ n) (hs : cutP s most s.size 0 + n ≤ s.size)
    (hf : (flt (s.extract 0 (cutP s most s.size 0 + n)) (cutP s most s.size 0 + n) 0).2 = false) : most < (cutP s most s.size 0 : Int) + n := by
  obtain ⟨g', hg, he⟩ := flt_cut s most s.size 0 (cutP s most s.size 0 + n) (cutP s most s.size 0 + n) (by omega) hs (Nat.zero_le _) (by omega)
  rw [he] at hf
  have hsz := size_cut s hs
  have hnx : nx (s.extract 0 (cutP s most s.size 0 + n)) (cutP s most s.size 0) ≠ 0 := by
    intro h0
    rw [flt_bad (by omega) (by omega) h0] at hf
    exact absurd hf (by simp)
  have hle := nx_le _ _ hnx
  rw [hsz] at hle
  have hx := nx_of_pre hs hnx
  rcases cutP_stop s most s.size 0 (by omega) with h | h | h
  · omega
  · rw [hx] at h; exact absurd h hnx
  · rw [hx] at h; omega
end Go.Proofs.YtlnanenfpapfkaaDoor.Pl

/- Plain facts: two texts are one; what a slash parts are texts. No program in sight. -/
namespace Go.Proofs.YtlnanenfpapfkaaDoor.Pl
open Go.PlainAid (bt bt_nonneg bt_le get_bt bt_end)

theorem size_app (a b : ByteArray) : (a ++ b).size = a.size + b.size := ByteArray.size_append
theorem bt_left (a b : ByteArray) {k : Nat} (h : k < a.size) : bt (a ++ b) k = bt a k := by
  have hs : a.size = a.data.size := rfl
  rw [← get!_bt, ← get!_bt]
  congr 2
  show (a ++ b).data[k]! = a.data[k]!
  rw [ByteArray.data_append, getElem!_pos (a.data ++ b.data) k (by rw [Array.size_append]; omega), getElem!_pos a.data k (by omega), Array.getElem_append_left (by omega)]
theorem bt_right (a b : ByteArray) {k : Nat} (h : k < b.size) : bt (a ++ b) (a.size + k) = bt b k := by
  have hs : a.size = a.data.size := rfl
  have ht : b.size = b.data.size := rfl
  rw [← get!_bt, ← get!_bt]
  congr 2
  show (a ++ b).data[a.size + k]! = b.data[k]!
  rw [ByteArray.data_append, getElem!_pos (a.data ++ b.data) (a.size + k) (by rw [Array.size_append]; omega), getElem!_pos b.data k (by omega), Array.getElem_append_right (by omega)]
  congr 1
  omega
theorem walk_left (a b : ByteArray) : ∀ (f k g : Nat), a.size ≤ k + f → k ≤ a.size → (a ++ b).size ≤ k + g → (flt a f k).2 = false →
    ∃ g', (a ++ b).size ≤ a.size + g' ∧ flt (a ++ b) g k = flt (a ++ b) g' a.size ∧ rns (a ++ b) g k = rns a f k + rns (a ++ b) g' a.size := by
  have hsz := size_app a b
  intro f
  induction f with
  | zero =>
    intro k g h1 h2 h3 h4
    obtain rfl : k = a.size := by omega
    exact ⟨g, h3, rfl, by rw [rns_end (s := a) (by omega), Nat.zero_add]⟩
  | succ f ih =>
    intro k g h1 h2 h3 h4
    by_cases hk : k < a.size
    · by_cases hn : nx a k = 0
      · rw [flt_bad hk h1 hn] at h4; exact absurd h4 (by simp)
      · have hle := nx_le a k hn
        have hx : nx (a ++ b) k = nx a k := nx_local hn fun j hj => ⟨by omega, bt_left a b (by omega)⟩
        rw [flt_step hk h1 hn] at h4
        obtain ⟨g', e1, e2, e3⟩ := ih (k + nx a k) (g - 1) (by omega) hle (by omega) h4
        refine ⟨g', e1, ?_, ?_⟩
        · rw [flt_step (by omega) (by omega) (by rw [hx]; exact hn), hx, e2]
        · rw [rns_step (by omega) (by omega) (by rw [hx]; exact hn), hx, e3, rns_step hk h1 hn]
          have : f + 1 - 1 = f := rfl
          rw [this]
          omega
    · obtain rfl : k = a.size := by omega
      exact ⟨g, h3, rfl, by rw [rns_end (s := a) (by omega), Nat.zero_add]⟩
theorem walk_right (a b : ByteArray) : ∀ (f k g : Nat), b.size ≤ k + f → k ≤ b.size → (a ++ b).size ≤ a.size + k + g → (flt b f k).2 = false →
    flt (a ++ b) g (a.size + k) = (0, false) ∧ rns (a ++ b) g (a.size + k) = rns b f k := by
  have hsz := size_app a b
  intro f
  induction f with
  | zero =>
    intro k g h1 h2 h3 h4
    exact ⟨flt_end (by omega), by rw [rns_end (by omega), rns_end (by omega)]⟩
  | succ f ih =>
    intro k g h1 h2 h3 h4
    by_cases hk : k < b.size
    · by_cases hn : nx b k = 0
      · rw [flt_bad hk h1 hn] at h4; exact absurd h4 (by simp)
      · have hle := nx_le b k hn
        have hx : nx (a ++ b) (a.size + k) = nx b k := nx_local hn fun j hj => ⟨by omega, by rw [Nat.add_assoc]; exact bt_right a b (by omega)⟩
        rw [flt_step hk h1 hn] at h4
        obtain ⟨e2, e3⟩ := ih (k + nx b k) (g - 1) (by omega) hle (by omega) h4
        rw [← Nat.add_assoc] at e2 e3
        refine ⟨?_, ?_⟩
        · rw [flt_step (by omega) (by omega) (by rw [hx]; exact hn), hx, e2]
        · rw [rns_step (by omega) (by omega) (by rw [hx]; exact hn), hx, e3, rns_step hk h1 hn]
          rfl
    · exact ⟨flt_end (by omega), by rw [rns_end (by omega), rns_end (by omega)]⟩
/-- Two texts are one. -/
theorem join_text {a b : ByteArray} (ha : (flt a a.size 0).2 = false) (hb : (flt b b.size 0).2 = false) :
    flt (a ++ b) (a ++ b).size 0 = (0, false) ∧ rns (a ++ b) (a ++ b).size 0 = rns a a.size 0 + rns b b.size 0 := by
  obtain ⟨g', e1, e2, e3⟩ := walk_left a b a.size 0 (a ++ b).size (by omega) (by omega) (by omega) ha
  obtain ⟨e4, e5⟩ := walk_right a b b.size 0 g' (by omega) (by omega) (by omega) hb
  rw [Nat.add_zero] at e4 e5
  exact ⟨e2.trans e4, by rw [e3, e5]⟩


theorem nx_tail {s : ByteArray} {a k : Nat} (h : nx s a ≠ 0) (h1 : 1 ≤ k) (h2 : k < nx s a) : 128 ≤ bt s (a + k) := by
  unfold nx at h h2
  by_cases c1 : 1 ≤ bt s a ∧ bt s a ≤ 127
  · rw [if_pos c1] at h2; omega
  · rw [if_neg c1] at h h2
    by_cases c2 : 194 ≤ bt s a ∧ bt s a ≤ 223 ∧ tl s (a + 1) 128 191 = true
    · rw [if_pos c2] at h2
      obtain rfl : k = 1 := by omega
      exact (tl_iff.1 c2.2.2).2.1
    · rw [if_neg c2] at h h2
      by_cases c3 : 224 ≤ bt s a ∧ bt s a ≤ 239 ∧ tl s (a + 1) 128 191 = true ∧ tl s (a + 2) 128 191 = true
      · rw [if_pos c3] at h h2
        have : k < 3 := by split at h2 <;> omega
        obtain rfl | rfl : k = 1 ∨ k = 2 := by omega
        · exact (tl_iff.1 c3.2.2.1).2.1
        · exact (tl_iff.1 c3.2.2.2).2.1
      · rw [if_neg c3] at h h2
        by_cases c4 : 240 ≤ bt s a ∧ bt s a ≤ 244 ∧ tl s (a + 1) 128 191 = true ∧ tl s (a + 2) 128 191 = true ∧ tl s (a + 3) 128 191 = true
        · rw [if_pos c4] at h h2
          have : k < 4 := by split at h2 <;> omega
          obtain rfl | rfl | rfl : k = 1 ∨ k = 2 ∨ k = 3 := by omega
          · exact (tl_iff.1 c4.2.2.1).2.1
          · exact (tl_iff.1 c4.2.2.2.1).2.1
          · exact (tl_iff.1 c4.2.2.2.2).2.1
        · rw [if_neg c4] at h; exact absurd rfl h

/-- Ahead of a byte below 128 the walk goes as in that part alone, and comes tu that byte. -/
theorem walk_part (a b : ByteArray) (hb : bt (a ++ b) a.size < 128) (hs : a.size < (a ++ b).size) : ∀ (f k g : Nat), (a ++ b).size ≤ k + f → k ≤ a.size → a.size ≤ k + g → (flt (a ++ b) f k).2 = false →
    (flt a g k).2 = false ∧ ∃ f', (a ++ b).size ≤ a.size + f' ∧ (flt (a ++ b) f' a.size).2 = false := by
  have hsz := size_app a b
  intro f
  induction f with
  | zero => intro k g h1 h2 h3 h4; omega
  | succ f ih =>
    intro k g h1 h2 h3 h4
    by_cases hk : k < a.size
    · by_cases hn : nx (a ++ b) k = 0
      · rw [flt_bad (by omega) h1 hn] at h4; exact absurd h4 (by simp)
      · have hle : k + nx (a ++ b) k ≤ a.size := by
          apply Decidable.byContradiction
          intro hc
          have := nx_tail (s := a ++ b) (a := k) (k := a.size - k) hn (by omega) (by omega)
          rw [show k + (a.size - k) = a.size by omega] at this
          omega
        have hx : nx a k = nx (a ++ b) k := nx_local hn fun j hj => ⟨by omega, (bt_left a b (by omega)).symm⟩
        rw [flt_step (by omega) h1 hn] at h4
        obtain ⟨e1, e2⟩ := ih (k + nx (a ++ b) k) (g - 1) (by omega) hle (by omega) h4
        refine ⟨?_, e2⟩
        rw [flt_step hk (by omega) (by rw [hx]; exact hn), hx]
        exact e1
    · obtain rfl : k = a.size := by omega
      exact ⟨by rw [flt_end (by omega)], f + 1, h1, h4⟩
theorem walk_behind (a b : ByteArray) : ∀ (f k g : Nat), (a ++ b).size ≤ a.size + k + f → k ≤ b.size → b.size ≤ k + g → (flt (a ++ b) f (a.size + k)).2 = false → (flt b g k).2 = false := by
  have hsz := size_app a b
  intro f
  induction f with
  | zero => intro k g h1 h2 h3 h4; rw [flt_end (by omega)]
  | succ f ih =>
    intro k g h1 h2 h3 h4
    by_cases hk : k < b.size
    · by_cases hn : nx (a ++ b) (a.size + k) = 0
      · rw [flt_bad (by omega) h1 hn] at h4; exact absurd h4 (by simp)
      · have hle := nx_le (a ++ b) (a.size + k) hn
        have hx : nx b k = nx (a ++ b) (a.size + k) := nx_local hn fun j hj => ⟨by omega, by rw [Nat.add_assoc]; exact (bt_right a b (by omega)).symm⟩
        rw [flt_step (by omega) h1 hn, Nat.add_assoc] at h4
        rw [flt_step hk (by omega) (by rw [hx]; exact hn), hx]
        exact ih _ (g - 1) (by omega) (by omega) (by omega) h4
    · rw [flt_end (by omega)]

/-- Is it a text? -/
def txt (l : List UInt8) : Bool := !(flt ⟨l.toArray⟩ l.length 0).2
theorem txt_iff (s : ByteArray) : txt s.data.toList = !(flt s s.size 0).2 := by
  unfold txt
  have : s.data.toList.length = s.size := rfl
  rw [this]
theorem mk_app (a b : List UInt8) : (⟨(a ++ b).toArray⟩ : ByteArray) = ⟨a.toArray⟩ ++ ⟨b.toArray⟩ := by
  apply ByteArray.ext
  simp
theorem txt_app {a b : List UInt8} (ha : txt a = true) (hb : txt b = true) : txt (a ++ b) = true := by
  have h := (join_text (a := ⟨a.toArray⟩) (b := ⟨b.toArray⟩) (by simpa [txt, ByteArray.size] using ha) (by simpa [txt, ByteArray.size] using hb)).1
  rw [← mk_app] at h
  unfold txt
  have e : (⟨(a ++ b).toArray⟩ : ByteArray).size = (a ++ b).length := by simp [ByteArray.size]
  rw [e] at h
  rw [h]; rfl
theorem txt_nil : txt [] = true := rfl
/-- What stands ahead of and behind a byte below 128 of a text are texts. -/
theorem txt_part {a b : List UInt8} {c : UInt8} (hc : c.toNat < 128) (h : txt (a ++ c :: b) = true) : txt a = true ∧ txt b = true := by
  have hA : (⟨a.toArray⟩ : ByteArray).size = a.length := by simp [ByteArray.size]
  have hB : (⟨(c :: b).toArray⟩ : ByteArray).size = b.length + 1 := by simp [ByteArray.size]
  have hb0 : bt ⟨(c :: b).toArray⟩ 0 = c.toNat := by
    rw [← get!_bt]
    rfl
  have hsz := size_app ⟨a.toArray⟩ ⟨(c :: b).toArray⟩
  have hbt : bt ((⟨a.toArray⟩ : ByteArray) ++ ⟨(c :: b).toArray⟩) (⟨a.toArray⟩ : ByteArray).size = c.toNat := by
    rw [← hb0]
    exact bt_right ⟨a.toArray⟩ ⟨(c :: b).toArray⟩ (k := 0) (by omega)
  have h0 : (flt ((⟨a.toArray⟩ : ByteArray) ++ ⟨(c :: b).toArray⟩) (a ++ c :: b).length 0).2 = false := by
    rw [← mk_app]; simpa [txt] using h
  have hlen : (a ++ c :: b).length = a.length + (b.length + 1) := by simp
  obtain ⟨e1, f', e2, e3⟩ := walk_part ⟨a.toArray⟩ ⟨(c :: b).toArray⟩ (by rw [hbt]; omega) (by omega) (a ++ c :: b).length 0 a.length (by omega) (by omega) (by omega) h0
  refine ⟨by simpa [txt] using e1, ?_⟩
  have e4 := walk_behind ⟨a.toArray⟩ ⟨(c :: b).toArray⟩ f' 0 (b.length + 1) (by omega) (by omega) (by omega) e3
  by_cases hz : c.toNat = 0
  · have hn : nx ⟨(c :: b).toArray⟩ 0 = 0 := by
      unfold nx
      rw [hb0, if_neg (by omega), if_neg (by omega), if_neg (by omega), if_neg (by omega)]
    rw [flt_bad (by omega) (by omega) hn] at e4
    exact absurd e4 (by simp)
  · have hn : nx ⟨(c :: b).toArray⟩ 0 = 1 := by
      unfold nx
      rw [hb0, if_pos (by omega)]
    rw [flt_step (by omega) (by omega) (by omega), hn] at e4
    have ec : (⟨(c :: b).toArray⟩ : ByteArray) = ⟨[c].toArray⟩ ++ ⟨b.toArray⟩ := mk_app [c] b
    rw [ec] at e4
    have e5 := walk_behind ⟨[c].toArray⟩ ⟨b.toArray⟩ (b.length + 1 - 1) 0 b.length (by rw [size_app]; simp [ByteArray.size]) (by omega) (by simp [ByteArray.size]) (by simpa [ByteArray.size] using e4)
    simpa [txt] using e5
end Go.Proofs.YtlnanenfpapfkaaDoor.Pl

/- What a packet's bytes begin with; the same of the bytes cut off, and of the bytes with more behind them. -/
namespace Go.Proofs.YtlnanenfpapfkaaDoor
set_option linter.unusedVariables false
open Go.RowKit Pl Go.PlainAid

/-- A head byte that a packet may have: its kind, and its flags. -/
structure Hd1 (h k f : Int) : Prop where
  e : h = 16 * k + f
  k1 : 1 ≤ k
  k2 : k ≤ 15
  f1 : 0 ≤ f
  f2 : f ≤ 15
  ok : if k = 3 then f / 2 % 4 < 3 ∧ (8 ≤ f → 0 < f / 2 % 4) else f = kFlags k
/-- What a packet's bytes begin with. -/
structure Shp (s : ByteArray) (h : Int) (L : Nat) : Prop where
  b0 : bt s 0 = h
  L1 : L ≤ 65536
  size : s.size = 1 + (enc L).length + L
  len : Has s 1 (enc L)
theorem bt1_bd2 (b : Bool) (n : Int) (h : 0 ≤ n) : 0 ≤ bt1 b n ∧ bt1 b n ≤ n ∧ (bt1 b n = 0 ∨ bt1 b n = n) := by unfold bt1; split <;> omega
theorem pk_hd1 {q : Pk} (h : pkC q = 0) : Hd1 (16 * q.kind + pFlags q) q.kind (pFlags q) := by
  unfold pkC at h
  split at h
  · cases h
  · rename_i hk
    split at h
    · rename_i hc; exact absurd h hc
    · rename_i hc
      have hc : (wAll q).c = 0 := by omega
      refine ⟨rfl, by omega, by omega, ?_, ?_, ?_⟩
      all_goals
        unfold pFlags
        by_cases h3 : q.kind = 3
        · obtain ⟨q0, q1, q2⟩ := publish_q h3 hc
          obtain ⟨d0, d1, d2⟩ := bt1_bd2 q.dup 8 (by decide)
          obtain ⟨r0, r1, r2⟩ := bt1_bd2 q.ret 1 (by decide)
          simp only [if_pos h3]
          first
            | omega
            | (refine ⟨by omega, fun h8 => ?_⟩
               have hd : q.dup = true := by
                 cases hq : q.dup with
                 | true => rfl
                 | false => rw [hq] at h8; simp only [bt1] at h8; simp at h8; omega
               have := q2 hd
               omega)
        · simp only [if_neg h3] <;> first
            | rfl
            | (unfold kFlags; split <;> omega)
theorem pk_shp {q : Pk} (h : pkC q = 0) : Shp (pkS q) (16 * q.kind + pFlags q) (wAll q).s.size := by
  have hh := pk_hd1 h
  have hL : (wAll q).s.size ≤ 65536 := by
    unfold pkC at h
    split at h
    · cases h
    · split at h
      · rename_i hc; exact absurd h hc
      · split at h
        · cases h
        · omega
  obtain ⟨hd, hhd⟩ : ∃ x, 16 * q.kind + pFlags q = x := ⟨_, rfl⟩
  rw [hhd] at hh ⊢
  have hb : 0 ≤ hd ∧ hd < 256 := by have := hh.e; have := hh.k1; have := hh.k2; have := hh.f1; have := hh.f2; omega
  have hf := (fixS_ok (k := 1) (n := hd) (by simp) hb.1 (by simpa using hb.2)).2
  have hs : (pkS q).data.toList = fb 1 hd ++ (enc (wAll q).s.size ++ (wAll q).s.data.toList) := by
    unfold pkS
    rw [if_pos h, hhd, app_bytes, app_bytes, List.append_assoc]
    show fixS ((1 : Nat) : Int) hd ++ _ = _
    rw [hf]
  have hself := has_self (pkS q)
  rw [hs] at hself
  obtain ⟨h1, h2⟩ := has_append.1 hself
  obtain ⟨h3, h4⟩ := has_append.1 h2
  have hl1 : (fb 1 hd).length = 1 := rfl
  refine ⟨?_, hL, ?_, ?_⟩
  · have := gv_has h1
    rw [gv_cons] at this
    simp [gv] at this
    omega
  · have e : (pkS q).size = (pkS q).data.toList.length := rfl
    rw [e, hs, List.length_append, List.length_append, hl1]
    show _ + (_ + (wAll q).s.size) = _
    omega
  · rw [hl1] at h3; exact h3
theorem shp_len {s : ByteArray} {h : Int} {L : Nat} (hs : Shp s h L) : 1 ≤ (enc L).length ∧ (enc L).length ≤ 4 := by
  obtain ⟨r, h1, _, _, _, h5⟩ := enc_vb (n := L) (by omega) (by have := hs.L1; omega)
  omega
/-- Cut off. -/
theorem shp_cut {s : ByteArray} {h : Int} {L c : Nat} (hs : Shp s h L) (h1 : 1 ≤ c) (hc : c < s.size) :
    bt (s.extract 0 c) 0 = h ∧ (s.extract 0 c).size = c ∧ (getV (s.extract 0 c) 1 = (0, 0, 242) ∨ (getV (s.extract 0 c) 1 = ((L : Int), ((1 + (enc L).length : Nat) : Int), 0) ∧ 1 + (enc L).length ≤ c ∧ c - (1 + (enc L).length) < L)) := by
  have hsz : (s.extract 0 c).size = c := by rw [ByteArray.size_extract]; omega
  refine ⟨(bt_cut (by omega) (by omega)).trans hs.b0, hsz, ?_⟩
  by_cases hl : 1 + (enc L).length ≤ c
  · refine .inr ⟨?_, hl, ?_⟩
    · exact getV_has (by omega) (by have := hs.L1; omega) (has_cut hs.len hl (by omega))
    · have := hs.size; omega
  · refine .inl ?_
    obtain ⟨r, hr, he, _, _, hlen⟩ := enc_vb (n := L) (by omega) (by have := hs.L1; omega)
    have hv : getV (s.extract 0 c) ((1 : Nat) : Int) = gi (s.extract 0 c) 4 0 0 1 := getV_ok (by omega)
    have hv' : getV (s.extract 0 c) 1 = gi (s.extract 0 c) 4 0 0 1 := hv
    rw [hv']
    refine gi_cut _ (r + 1) (c - 1) 4 0 1 L 0 hr (by omega) (fun j hj h2 => ?_) (by omega)
    have hb := has_bt hs.len (j := j) (by rw [he]; exact h2)
    rw [bt_cut (by omega) (by omega), hb]
    congr 2
    simp only [he]
/-- With more behind. -/
theorem shp_more {s t : ByteArray} {h : Int} {L : Nat} (hs : Shp s h L) : bt (s ++ t) 0 = h ∧ getV (s ++ t) 1 = ((L : Int), ((1 + (enc L).length : Nat) : Int), 0) := by
  have hz := hs.size
  refine ⟨(bt_left s t (by omega)).trans hs.b0, ?_⟩
  show getV (s ++ t) ((1 : Nat) : Int) = _
  refine getV_has (i := 1) (by omega) (by have := hs.L1; omega) ?_
  refine ⟨by have := hs.len.1; rw [ByteArray.size_append]; omega, fun j hj => ?_⟩
  rw [app_bytes, List.getElem?_append_left (by have : s.data.toList.length = s.size := rfl; omega)]
  exact hs.len.2 j hj
end Go.Proofs.YtlnanenfpapfkaaDoor

/- What a packet's bytes are read back as: plain. -/
namespace Go.Proofs.YtlnanenfpapfkaaDoor
set_option linter.unusedVariables false
set_option linter.unusedSimpArgs false
open Go.RowKit Pl Go.PlainAid

def cn (q : Pk) : Pk :=
  if q.kind = 1 then cnConn q else if q.kind = 2 then cnConnack q else if q.kind = 3 then cnPub q
  else if q.kind = 4 ∨ q.kind = 5 ∨ q.kind = 6 ∨ q.kind = 7 then cnAck q
  else if q.kind = 14 ∨ q.kind = 15 then cnEnd q
  else if q.kind = 8 ∨ q.kind = 9 ∨ q.kind = 10 ∨ q.kind = 11 then cnLists q else { zPk with kind := q.kind }
def hdP (q : Pk) : Pk := if q.kind = 3 then { zPk with kind := 3, dup := q.dup, q := q.q, ret := q.ret } else { zPk with kind := q.kind }
theorem pk_zero {q : Pk} (h : pkC q = 0) : 1 ≤ q.kind ∧ q.kind ≤ 15 ∧ (wAll q).c = 0 ∧ (wAll q).s.size ≤ 65536 := by
  unfold pkC at h
  split at h
  · cases h
  · split at h
    · rename_i hc; exact absurd h hc
    · split at h
      · cases h
      · exact ⟨by omega, by omega, by omega, by omega⟩
theorem head_e0 {q : Pk} (h : (wAll q).c = 0) : wHead q = e0 := by
  unfold wHead
  split
  · rename_i h3
    obtain ⟨q0, q1, q2⟩ := publish_q h3 h
    rw [if_neg (fun c => by have := q2 c.1; omega)]
    unfold wQos
    rw [if_neg (by omega)]
    rfl
  · rfl
theorem hdO_fwd {q : Pk} (h : pkC q = 0) : hdO (16 * q.kind + pFlags q) = some (hdP q) := by
  have hh := pk_hd1 h
  obtain ⟨k1, k2, hc, _⟩ := pk_zero h
  have f1 := hh.f1
  have f2 := hh.f2
  have d1 : (16 * q.kind + pFlags q) / 16 = q.kind := by omega
  have d2 : (16 * q.kind + pFlags q) % 16 = pFlags q := by omega
  unfold hdO hdP
  rw [d1, if_neg (by omega)]
  by_cases h3 : q.kind = 3
  · rw [if_pos h3, if_pos h3]
    obtain ⟨q0, q1, q2⟩ := publish_q h3 hc
    unfold pFlags
    rw [if_pos h3, h3]
    obtain ⟨kind, dup, ret, qq⟩ := q
    simp only at *
    have q3 : qq = 0 ∨ qq = 1 ∨ qq = 2 := by omega
    rcases q3 with rfl | rfl | rfl <;> cases dup <;> cases ret <;> first | rfl | (exact absurd (q2 rfl) (by decide))
  · rw [if_neg h3, if_neg h3, d2]
    have := hh.ok
    rw [if_neg h3] at this
    rw [if_pos this]
theorem fwd_body {q : Pk} (h : pkC q = 0) : rBody (wAll q).s (hdP q) 0 = .ok (cn q, ((wAll q).s.size : Int)) := by
  obtain ⟨k1, k2, hc, _⟩ := pk_zero h
  have hb : Beg (wAll q).s (wAll q) := has_self _
  suffices hr : rKind (wAll q).s (hdP q) 0 = .ok (cn q, ((wAll q).s.size : Int)) by
    unfold rBody
    rw [hr]
    simp only [bindR]
    rw [if_neg (by omega)]
  obtain ⟨s, hs⟩ : ∃ s, (wAll q).s = s := ⟨_, rfl⟩
  have hz : s.size = (wAll q).s.size := by rw [hs]
  rw [hs] at hb ⊢
  clear hs
  have he := head_e0 hc
  unfold wAll at hc hb hz
  rw [he] at hc hb hz
  unfold wBody at hc hb hz
  unfold rKind cn hdP
  by_cases h1 : q.kind = 1
  · rw [if_neg (by omega : ¬ q.kind = 3)]
    simp only [if_pos h1] at hc hb hz ⊢
    have := fwd_conn hc hb
    rw [h1]
    rw [← hz] at this
    exact this
  simp only [if_neg h1] at hc hb hz ⊢
  by_cases h2 : q.kind = 2
  · rw [if_neg (by omega : ¬ q.kind = 3)]
    simp only [if_pos h2] at hc hb hz ⊢
    have := fwd_connack hc hb
    rw [h2]
    rw [← hz] at this
    exact this
  simp only [if_neg h2] at hc hb hz ⊢
  by_cases h3 : q.kind = 3
  · simp only [if_pos h3] at hc hb hz ⊢
    exact fwd_pub hc hb hz
  simp only [if_neg h3, if_neg h1, if_neg h2] at hc hb hz ⊢
  by_cases h4 : q.kind = 4 ∨ q.kind = 5 ∨ q.kind = 6 ∨ q.kind = 7
  · simp only [if_pos h4] at hc hb hz ⊢
    exact fwd_ack hc hb hz
  simp only [if_neg h4] at hc hb hz ⊢
  by_cases h5 : q.kind = 14 ∨ q.kind = 15
  · simp only [if_pos h5] at hc hb hz ⊢
    exact fwd_dis hc hb hz
  simp only [if_neg h5] at hc hb hz ⊢
  by_cases h6 : q.kind = 8 ∨ q.kind = 9 ∨ q.kind = 10 ∨ q.kind = 11
  · simp only [if_pos h6] at hc hb hz ⊢
    exact fwd_lists hc hb hz
  simp only [if_neg h6] at hc hb hz ⊢
  have hz : s.size = 0 := hz
  rw [hz]
  rfl
end Go.Proofs.YtlnanenfpapfkaaDoor

/- What Publish has put is what Get reads: plain. -/
namespace Go.Proofs.YtlnanenfpapfkaaDoor
set_option linter.unusedVariables false
set_option linter.unusedSimpArgs false
open Go.RowKit Pl Go.PlainAid

theorem pk_has {q : Pk} (h : pkC q = 0) : Has (pkS q) (1 + (enc (wAll q).s.size).length) (wAll q).s.data.toList := by
  have hs : (pkS q).data.toList = (fixS 1 (16 * q.kind + pFlags q)) ++ (enc (wAll q).s.size ++ (wAll q).s.data.toList) := by
    unfold pkS
    rw [if_pos h, app_bytes, app_bytes, List.append_assoc]
  have hz := (pk_shp h).size
  have hself := has_self (pkS q)
  rw [hs] at hself
  obtain ⟨h1, h2⟩ := has_append.1 hself
  obtain ⟨h3, h4⟩ := has_append.1 h2
  have e : (pkS q).size = (pkS q).data.toList.length := rfl
  rw [hs, List.length_append, List.length_append] at e
  have e2 : (wAll q).s.data.toList.length = (wAll q).s.size := rfl
  have : 0 + (fixS 1 (16 * q.kind + pFlags q)).length + (enc (wAll q).s.size).length = 1 + (enc (wAll q).s.size).length := by omega
  rw [this] at h4
  exact h4
theorem fwd_pk {q : Pk} (h : pkC q = 0) : pkGet (pkS q) = (cn q, 0) := by
  have hs := pk_shp h
  have hL := hs.L1
  have hz := hs.size
  have hg : getV (pkS q) ((1 : Nat) : Int) = (((wAll q).s.size : Int), ((1 + (enc (wAll q).s.size).length : Nat) : Int), 0) := getV_has (i := 1) (by omega) (by omega) hs.len
  have hg : getV (pkS q) 1 = (((wAll q).s.size : Int), ((1 + (enc (wAll q).s.size).length : Nat) : Int), 0) := hg
  have hx := extract_has (pk_has h)
  have e2 : (wAll q).s.data.toList.length = (wAll q).s.size := rfl
  unfold pkGet
  rw [if_neg (by omega), hs.b0, hdO_fwd h]
  simp only
  rw [hg]
  simp only
  rw [if_neg (by omega), if_neg (by omega), if_neg (by omega), if_neg (by omega)]
  have hx2 : (pkS q).extract ((1 + (enc (wAll q).s.size).length : Nat) : Int).toNat (pkS q).size = (wAll q).s := by
    rw [hz, Int.toNat_natCast]
    exact hx
  rw [hx2, fwd_body h]
end Go.Proofs.YtlnanenfpapfkaaDoor

/- What was read back is put as the same bytes: plain. -/
namespace Go.Proofs.YtlnanenfpapfkaaDoor
set_option linter.unusedVariables false
set_option linter.unusedSimpArgs false
open Go.RowKit Pl Go.PlainAid

theorem cn_connack {o : Ot} {q : Pk} (hc : (wConnack o q).c = 0) : wConnack o (cnConnack q) = wConnack o q := by
  unfold wConnack at hc ⊢
  exact wProps_nrm hc
theorem cn_pub {o : Ot} {q : Pk} (hc : (wPublish o q).c = 0) : wPublish o (cnPub q) = wPublish o q := by
  unfold wPublish at hc ⊢
  have h1 := wProps_nrm (add_zero'.1 hc).1
  unfold cnPub
  simp only
  by_cases h0 : 0 < q.q
  · simp only [if_pos h0] at h1 ⊢
    rw [h1]
  · simp only [if_neg h0] at h1 ⊢
    rw [h1]
theorem cn_wEnd {o : Ot} {p q : Pk} (hc : (wEnd o q).c = 0) (hk : p.kind = q.kind) (h1 : p.code = q.code) (h2 : p.ps = q.ps.map nrm) : wEnd o p = wEnd o q := by
  unfold wEnd at hc ⊢
  rw [hk, h1, h2, List.length_map]
  by_cases h : q.ps.length = 0
  · rw [if_pos h, if_pos h]
  · rw [if_neg h] at hc
    rw [if_neg h, if_neg h, wProps_nrm hc]
theorem sub_c0 {o : Ot} {x : Sb} (hx : (wSub o x).c = 0) : o.c = 0 := by
  unfold wSub at hx
  exact txt_c (wQos_zero (wQos_zero (nmb_c hx)).1).1
theorem cn_lists {o : Ot} {q : Pk} (hc : (wLists o q).c = 0) : wLists o (cnLists q) = wLists o q := by
  unfold wLists at hc ⊢
  unfold cnLists
  by_cases h8 : q.kind = 8
  · simp only [if_pos h8] at hc ⊢
    unfold wSubs at hc ⊢
    rw [wProps_nrm (wSome_zero (foldl_c (fun o x hx => sub_c0 hx) _ _ hc)).1]
  · simp only [if_neg h8] at hc ⊢
    by_cases h10 : q.kind = 10
    · simp only [if_pos h10, if_neg h8] at hc ⊢
      unfold wFilters at hc ⊢
      rw [wProps_nrm (wSome_zero (foldl_c (fun o x hx => txt_c hx) _ _ hc)).1]
    · simp only [if_neg h10, if_neg h8] at hc ⊢
      unfold wCodes at hc ⊢
      rw [wProps_nrm (wSome_zero (foldl_c (fun o x hx => nmb_c hx) _ _ hc)).1]
theorem pass_c0 {o : Ot} {q : Pk} (h : (cPass o q).c = 0) : o.c = 0 := by
  unfold cPass at h
  split at h
  · exact (add_zero'.1 h).1
  · exact h
theorem user_c0 {o : Ot} {q : Pk} (h : (cUser o q).c = 0) : o.c = 0 := by
  unfold cUser at h
  split at h
  · exact txt_c h
  · exact h
theorem cn_conn {o : Ot} {q : Pk} (hc : (wConnect o q).c = 0) : wConnect o (cnConn q) = wConnect o q := by
  unfold wConnect at hc ⊢
  have c1 := user_c0 (pass_c0 hc)
  have hw : cWill (cHead o q) (cnConn q) = cWill (cHead o q) q := by
    unfold cWill at c1 ⊢
    show (if q.hasWill = true then _ else _) = _
    by_cases h : q.hasWill = true
    · rw [if_pos h] at c1
      rw [if_pos h, if_pos h]
      unfold cnConn
      simp only [if_pos h]
      rw [wProps_nrm (txt_c (add_zero'.1 c1).1)]
    · rw [if_neg h, if_neg h]
  have c2 : (cHead o q).c = 0 := by
    unfold cWill at c1
    split at c1
    · have c3 := txt_c (add_zero'.1 c1).1
      unfold wProps at c3
      (repeat' split at c3) <;> first | exact (add_zero'.1 c3).1 | exact (add_zero'.1 (fail_zero.1 c3).1).1
    · exact c1
  have hh : cHead o (cnConn q) = cHead o q := by
    have hf : cFlags (cnConn q) = cFlags q := by
      unfold cFlags cnConn wqOf
      simp only
      by_cases h : q.hasWill = true
      · simp [h]
      · simp [h]
    have hq : (cnConn q).hasWill = true → (cnConn q).wq = q.wq := fun h => by
      have h : q.hasWill = true := h
      show wqOf q = q.wq
      unfold wqOf
      rw [if_pos h]
    unfold cHead at c2 ⊢
    rw [hf]
    have e1 : (if (cnConn q).hasWill = true then wQos (wNum 1 (wText o name5) 5) (cnConn q).wq else wNum 1 (wText o name5) 5) = (if q.hasWill = true then wQos (wNum 1 (wText o name5) 5) q.wq else wNum 1 (wText o name5) 5) := by
      show (if q.hasWill = true then wQos (wNum 1 (wText o name5) 5) (cnConn q).wq else wNum 1 (wText o name5) 5) = _
      by_cases h : q.hasWill = true
      · rw [if_pos h, if_pos h, hq h]
      · rw [if_neg h, if_neg h]
    rw [e1]
    show wText (wProps 1 _ (q.ps.map nrm)) q.client = _
    have := wProps_nrm (txt_c c2)
    exact congrArg (fun o => wText o q.client) this
  rw [hh, hw]
  unfold cUser cPass cnConn
  simp only
  by_cases h1 : q.hasUser = true <;> by_cases h2 : q.hasPass = true <;> simp only [h1, h2, if_true, if_false] <;> rfl
end Go.Proofs.YtlnanenfpapfkaaDoor
