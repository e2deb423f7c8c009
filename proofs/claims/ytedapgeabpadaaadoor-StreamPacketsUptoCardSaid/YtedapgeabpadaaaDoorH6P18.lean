/- Parts of the proof, joined: Gp9, Gp10, Gp11, OrdersPlain, Gp12, Gp13, Gp14, PkL0, Gw16. -/
import Derived.Test.YtedapgeabpadaaaDoorH6P17
import Derived.Test.YtedapgeabpadaaaDoorH6P5
import Derived.Laws.Strings
import Derived.Test.YtedapgeabpadaaaDoorH6P6
import Derived.Test.YtedapgeabpadaaaDoorH6P9
import Derived.Test.YtedapgeabpadaaaDoorH6P16
/- What Publish has put is what Get reads: plain. -/
namespace Go.Proofs.YtedapgeabpadaaaDoor
set_option linter.unusedVariables false
set_option linter.unusedSimpArgs false
open Go.RowKit Pl Go.PlainAid

theorem pk_has {q : Pk} (h : pkC q = 0) : Has (pkS q) (1 + (enc (wAll q).s.size).length) (wAll q).s.data.toList := by
  have hs : (pkS q).data.toList = (fixS 1 (16 * q.kind + pFlags q)) ++ (enc (wAll q).s.size ++ (wAll q).s.data.toList) := by
    unfold pkS
    rw [if_pos h, app_bytes, app_bytes, List.append_assoc]
  have hz := (pk_shp h).size
  have hself := has_self (pkS q)
  rw [hs] at hself
  obtain ⟨h1, h2⟩ := has_append.1 hself
  obtain ⟨h3, h4⟩ := has_append.1 h2
  have e : (pkS q).size = (pkS q).data.toList.length := rfl
  rw [hs, List.length_append, List.length_append] at e
  have e2 : (wAll q).s.data.toList.length = (wAll q).s.size := rfl
  have : 0 + (fixS 1 (16 * q.kind + pFlags q)).length + (enc (wAll q).s.size).length = 1 + (enc (wAll q).s.size).length := by omega
  rw [this] at h4
  exact h4
theorem fwd_pk {q : Pk} (h : pkC q = 0) : pkGet (pkS q) = (cn q, 0) := by
  have hs := pk_shp h
  have hL := hs.L1
  have hz := hs.size
  have hg : getV (pkS q) ((1 : Nat) : Int) = (((wAll q).s.size : Int), ((1 + (enc (wAll q).s.size).length : Nat) : Int), 0) := getV_has (i := 1) (by omega) (by omega) hs.len
  have hg : getV (pkS q) 1 = (((wAll q).s.size : Int), ((1 + (enc (wAll q).s.size).length : Nat) : Int), 0) := hg
  have hx := extract_has (pk_has h)
  have e2 : (wAll q).s.data.toList.length = (wAll q).s.size := rfl
  unfold pkGet
  rw [if_neg (by omega), hs.b0, hdO_fwd h]
  simp only
  rw [hg]
  simp only
  rw [if_neg (by omega), if_neg (by omega), if_neg (by omega), if_neg (by omega)]
  have hx2 : (pkS q).extract ((1 + (enc (wAll q).s.size).length : Nat) : Int).toNat (pkS q).size = (wAll q).s := by
    rw [hz, Int.toNat_natCast]
    exact hx
  rw [hx2, fwd_body h]
end Go.Proofs.YtedapgeabpadaaaDoor

/- What was read back is put as the same bytes: plain. -/
namespace Go.Proofs.YtedapgeabpadaaaDoor
set_option linter.unusedVariables false
set_option linter.unusedSimpArgs false
open Go.RowKit Pl Go.PlainAid

theorem cn_connack {o : Ot} {q : Pk} (hc : (wConnack o q).c = 0) : wConnack o (cnConnack q) = wConnack o q := by
  unfold wConnack at hc ⊢
  exact wProps_nrm hc
theorem cn_pub {o : Ot} {q : Pk} (hc : (wPublish o q).c = 0) : wPublish o (cnPub q) = wPublish o q := by
  unfold wPublish at hc ⊢
  have h1 := wProps_nrm (add_zero'.1 hc).1
  unfold cnPub
  simp only
  by_cases h0 : 0 < q.q
  · simp only [if_pos h0] at h1 ⊢
    rw [h1]
  · simp only [if_neg h0] at h1 ⊢
    rw [h1]
theorem cn_wEnd {o : Ot} {p q : Pk} (hc : (wEnd o q).c = 0) (hk : p.kind = q.kind) (h1 : p.code = q.code) (h2 : p.ps = q.ps.map nrm) : wEnd o p = wEnd o q := by
  unfold wEnd at hc ⊢
  rw [hk, h1, h2, List.length_map]
  by_cases h : q.ps.length = 0
  · rw [if_pos h, if_pos h]
  · rw [if_neg h] at hc
    rw [if_neg h, if_neg h, wProps_nrm hc]
theorem sub_c0 {o : Ot} {x : Sb} (hx : (wSub o x).c = 0) : o.c = 0 := by
  unfold wSub at hx
  exact txt_c (wQos_zero (wQos_zero (nmb_c hx)).1).1
theorem cn_lists {o : Ot} {q : Pk} (hc : (wLists o q).c = 0) : wLists o (cnLists q) = wLists o q := by
  unfold wLists at hc ⊢
  unfold cnLists
  by_cases h8 : q.kind = 8
  · simp only [if_pos h8] at hc ⊢
    unfold wSubs at hc ⊢
    rw [wProps_nrm (wSome_zero (foldl_c (fun o x hx => sub_c0 hx) _ _ hc)).1]
  · simp only [if_neg h8] at hc ⊢
    by_cases h10 : q.kind = 10
    · simp only [if_pos h10, if_neg h8] at hc ⊢
      unfold wFilters at hc ⊢
      rw [wProps_nrm (wSome_zero (foldl_c (fun o x hx => txt_c hx) _ _ hc)).1]
    · simp only [if_neg h10, if_neg h8] at hc ⊢
      unfold wCodes at hc ⊢
      rw [wProps_nrm (wSome_zero (foldl_c (fun o x hx => nmb_c hx) _ _ hc)).1]
theorem pass_c0 {o : Ot} {q : Pk} (h : (cPass o q).c = 0) : o.c = 0 := by
  unfold cPass at h
  split at h
  · exact (add_zero'.1 h).1
  · exact h
theorem user_c0 {o : Ot} {q : Pk} (h : (cUser o q).c = 0) : o.c = 0 := by
  unfold cUser at h
  split at h
  · exact txt_c h
  · exact h
theorem cn_conn {o : Ot} {q : Pk} (hc : (wConnect o q).c = 0) : wConnect o (cnConn q) = wConnect o q := by
  unfold wConnect at hc ⊢
  have c1 := user_c0 (pass_c0 hc)
  have hw : cWill (cHead o q) (cnConn q) = cWill (cHead o q) q := by
    unfold cWill at c1 ⊢
    show (if q.hasWill = true then _ else _) = _
    by_cases h : q.hasWill = true
    · rw [if_pos h] at c1
      rw [if_pos h, if_pos h]
      unfold cnConn
      simp only [if_pos h]
      rw [wProps_nrm (txt_c (add_zero'.1 c1).1)]
    · rw [if_neg h, if_neg h]
  have c2 : (cHead o q).c = 0 := by
    unfold cWill at c1
    split at c1
    · have c3 := txt_c (add_zero'.1 c1).1
      unfold wProps at c3
      (repeat' split at c3) <;> first | exact (add_zero'.1 c3).1 | exact (add_zero'.1 (fail_zero.1 c3).1).1
    · exact c1
  have hh : cHead o (cnConn q) = cHead o q := by
    have hf : cFlags (cnConn q) = cFlags q := by
      unfold cFlags cnConn wqOf
      simp only
      by_cases h : q.hasWill = true
      · simp [h]
      · simp [h]
    have hq : (cnConn q).hasWill = true → (cnConn q).wq = q.wq := fun h => by
      have h : q.hasWill = true := h
      show wqOf q = q.wq
      unfold wqOf
      rw [if_pos h]
    unfold cHead at c2 ⊢
    rw [hf]
    have e1 : (if (cnConn q).hasWill = true then wQos (wNum 1 (wText o name5) 5) (cnConn q).wq else wNum 1 (wText o name5) 5) = (if q.hasWill = true then wQos (wNum 1 (wText o name5) 5) q.wq else wNum 1 (wText o name5) 5) := by
      show (if q.hasWill = true then wQos (wNum 1 (wText o name5) 5) (cnConn q).wq else wNum 1 (wText o name5) 5) = _
      by_cases h : q.hasWill = true
      · rw [if_pos h, if_pos h, hq h]
      · rw [if_neg h, if_neg h]
    rw [e1]
    show wText (wProps 1 _ (q.ps.map nrm)) q.client = _
    have := wProps_nrm (txt_c c2)
    exact congrArg (fun o => wText o q.client) this
  rw [hh, hw]
  unfold cUser cPass cnConn
  simp only
  by_cases h1 : q.hasUser = true <;> by_cases h2 : q.hasPass = true <;> simp only [h1, h2, if_true, if_false] <;> rfl
end Go.Proofs.YtedapgeabpadaaaDoor

/- What is read is what a writer puts, part by part: plain. -/
namespace Go.Proofs.YtedapgeabpadaaaDoor
set_option linter.unusedVariables false
set_option linter.unusedSimpArgs false
open Go.RowKit Pl Go.PlainAid

theorem bindR_ok {α β : Type} {r : RR α} {k : α → Int → RR β} {y : β × Int} (h : bindR r k = .ok y) : ∃ v a, r = .ok (v, a) ∧ k v a = .ok y := by
  cases r with
  | error c => cases h
  | ok v => obtain ⟨v, a⟩ := v; exact ⟨v, a, rfl, h⟩
theorem beg0 (s : ByteArray) : Beg s e0 := has_nil (Nat.zero_le _)
/-- All of o has been put, stands at the beginning of s, and b is where it ends. -/
def Kp (s : ByteArray) (o : Ot) (b : Int) : Prop := o.c = 0 ∧ Beg s o ∧ b = (o.s.size : Int)
/-- The same in what is told of a packet that was read and put. -/
def Five (a b : Pk) : Prop := a.kind = b.kind ∧ a.id = b.id ∧ a.code = b.code ∧ a.topic = b.topic ∧ a.payload = b.payload ∧ a.ps.length = b.ps.length
section
variable {s : ByteArray} {o : Ot} {p a : Pk} {b : Int}
theorem kp_num {k n x : Int} (h : rNum s k (o.s.size : Int) = .ok (n, x)) (ho : o.c = 0) (hb : Beg s o) : Kp s (wNum k o n) x := bwd_num h ho hb
theorem kp_text {t : ByteArray} {x : Int} (h : rText s (o.s.size : Int) = .ok (t, x)) (ho : o.c = 0) (hb : Beg s o) : Kp s (wText o t) x := bwd_text h ho hb
theorem kp_data {t : ByteArray} {x : Int} (h : rData s (o.s.size : Int) = .ok (t, x)) (ho : o.c = 0) (hb : Beg s o) : Kp s (wData o t) x := bwd_data h ho hb
theorem kp_id {n x : Int} (h : rId s (o.s.size : Int) = .ok (n, x)) (ho : o.c = 0) (hb : Beg s o) : Kp s (wId o n) x := by
  obtain ⟨h1, h2, h3, _⟩ := bwd_id h ho hb; exact ⟨h1, h2, h3⟩
theorem kp_props {k x : Int} {L : List Pp} (h : rProps k s (o.s.size : Int) = .ok (L, x)) (ho : o.c = 0) (hb : Beg s o) : Kp s (wProps k o L) x := by
  obtain ⟨h1, h2, h3, _⟩ := bwd_props h ho hb; exact ⟨h1, h2, h3⟩
theorem num_range {k n x y : Int} (h : rNum s k x = .ok (n, y)) (hk : k = 1) : 0 ≤ n ∧ n < 256 := by
  obtain ⟨i, _, hf, _, _⟩ := has_rNum h
  obtain ⟨j, hj, _, h0, h1⟩ := fixC_zero hf
  have hj1 : j = 1 := by omega
  subst hj1
  exact ⟨h0, by simpa using h1⟩
theorem bwd_connack (h : rConnack s { zPk with kind := 2 } 0 = .ok (a, b)) : (wConnack e0 a).c = 0 ∧ ((wConnack e0 a).s.size : Int) ≤ s.size ∧ Five a (cnConnack a) ∧ a.kind = 2 := by
  unfold rConnack at h
  obtain ⟨n, a1, r1, h⟩ := bindR_ok h
  by_cases hn : ¬ n < 2
  · rw [if_pos hn] at h; cases h
  rw [if_neg hn] at h
  obtain ⟨c, a2, r2, h⟩ := bindR_ok h
  obtain ⟨l, a3, r3, h⟩ := bindR_ok h
  cases h
  obtain ⟨c1, b1, e1⟩ := kp_num (o := e0) r1 rfl (beg0 s)
  subst e1
  obtain ⟨c2, b2, e2⟩ := kp_num r2 c1 b1
  subst e2
  obtain ⟨c3, b3, e3⟩ := kp_props r3 c2 b2
  have hl := beg_le b3
  have hr := num_range r1 rfl
  have hb : bt1 (decide (n = 1)) 1 = n := by
    have : n = 0 ∨ n = 1 := by omega
    rcases this with rfl | rfl <;> rfl
  unfold wConnack
  simp only
  rw [hb]
  exact ⟨c3, by omega, ⟨rfl, rfl, rfl, rfl, rfl, (List.length_map _).symm⟩, by first | rfl | trivial⟩
theorem bwd_payl (h : rPayl s p (o.s.size : Int) = .ok (a, b)) (ho : o.c = 0) (hb : Beg s o) : ∃ l t, a = { p with ps := l, payload := t } ∧ ((wProps 3 o l).add t 0).c = 0 ∧ (((wProps 3 o l).add t 0).s.size : Int) = s.size := by
  unfold rPayl at h
  obtain ⟨l, a1, r1, h⟩ := bindR_ok h
  obtain ⟨c1, b1, e1⟩ := kp_props r1 ho hb
  subst e1
  cases h
  refine ⟨l, _, rfl, add_zero'.2 ⟨c1, rfl⟩, ?_⟩
  have := beg_le b1
  rw [add_size, ByteArray.size_extract, Int.toNat_natCast]
  omega
theorem bwd_pub {d r : Bool} {q : Int} (h : rPub s { zPk with kind := 3, dup := d, q := q, ret := r } 0 = .ok (a, b)) : (wPublish e0 a).c = 0 ∧ ((wPublish e0 a).s.size : Int) ≤ s.size ∧ Five a (cnPub a) ∧ a.kind = 3 ∧ a.dup = d ∧ a.q = q := by
  unfold rPub at h
  obtain ⟨t, a1, r1, h⟩ := bindR_ok h
  obtain ⟨c1, b1, e1⟩ := kp_text (o := e0) r1 rfl (beg0 s)
  subst e1
  unfold wPublish
  by_cases hq : 0 < q
  · rw [if_pos hq] at h
    obtain ⟨n, a2, r2, h⟩ := bindR_ok h
    obtain ⟨c2, b2, e2⟩ := kp_id r2 c1 b1
    subst e2
    obtain ⟨l, t2, rfl, h1, h2⟩ := bwd_payl h c2 b2
    simp only [if_pos hq]
    refine ⟨h1, by omega, ⟨rfl, ?_, rfl, rfl, rfl, (List.length_map _).symm⟩, by first | rfl | trivial, by first | rfl | trivial, by first | rfl | trivial⟩
    unfold cnPub
    simp only [if_pos hq]
  · rw [if_neg hq] at h
    obtain ⟨l, t2, rfl, h1, h2⟩ := bwd_payl h c1 b1
    simp only [if_neg hq]
    refine ⟨h1, by omega, ⟨rfl, ?_, rfl, rfl, rfl, (List.length_map _).symm⟩, by first | rfl | trivial, by first | rfl | trivial, by first | rfl | trivial⟩
    unfold cnPub
    simp only [if_neg hq]
    rfl
theorem bwd_end (h : rEnd s p (o.s.size : Int) = .ok (a, b)) (ho : o.c = 0) (hb : Beg s o) (h0 : p.code = 0) (h1 : p.ps = []) :
    ∃ c l, a = { p with code := c, ps := l } ∧ (wEnd o a).c = 0 ∧ ((wEnd o a).s.size : Int) ≤ s.size := by
  unfold rEnd at h
  by_cases hx : (o.s.size : Int) < s.size
  · rw [if_pos hx] at h
    obtain ⟨c, a1, r1, h⟩ := bindR_ok h
    obtain ⟨c1, b1, e1⟩ := kp_num r1 ho hb
    subst e1
    have hsz : o.s.size ≤ (wNum 1 o c).s.size := by unfold wNum; rw [add_size]; omega
    have hl1 := beg_le b1
    have hl0 := beg_le hb
    unfold rEndP at h
    by_cases hy : ((wNum 1 o c).s.size : Int) < s.size
    · rw [if_pos hy] at h
      obtain ⟨l, a2, r2, h⟩ := bindR_ok h
      obtain ⟨c2, b2, e2⟩ := kp_props r2 c1 b1
      have hl2 : (wProps p.kind (wNum 1 o c) l).s.size ≤ s.size := beg_le b2
      cases h
      refine ⟨c, l, rfl, ?_, ?_⟩
      · unfold wEnd
        simp only
        split
        · split
          · exact ho
          · exact c1
        · exact c2
      · unfold wEnd
        simp only
        split
        · split
          · omega
          · omega
        · omega
    · rw [if_neg hy] at h
      cases h
      refine ⟨c, p.ps, rfl, ?_, ?_⟩
      · unfold wEnd
        simp only [h1, List.length_nil, if_true]
        split
        · exact ho
        · exact c1
      · unfold wEnd
        simp only [h1, List.length_nil, if_true]
        split
        · omega
        · omega
  · rw [if_neg hx] at h
    unfold rEndP at h
    rw [if_neg hx] at h
    cases h
    refine ⟨p.code, p.ps, rfl, ?_, ?_⟩
    · unfold wEnd
      rw [h1, h0]
      exact ho
    · unfold wEnd
      rw [h1, h0]
      have := beg_le hb
      show (o.s.size : Int) ≤ s.size
      omega
theorem bwd_ack {k : Int} (h : rAck s { zPk with kind := k } 0 = .ok (a, b)) : (wEnd (wId e0 a.id) a).c = 0 ∧ ((wEnd (wId e0 a.id) a).s.size : Int) ≤ s.size ∧ Five a (cnAck a) ∧ a.kind = k := by
  unfold rAck at h
  obtain ⟨n, a1, r1, h⟩ := bindR_ok h
  obtain ⟨c1, b1, e1⟩ := kp_id (o := e0) r1 rfl (beg0 s)
  subst e1
  obtain ⟨c, l, rfl, h1, h2⟩ := bwd_end h c1 b1 rfl rfl
  exact ⟨h1, h2, ⟨rfl, rfl, rfl, rfl, rfl, (List.length_map _).symm⟩, by first | rfl | trivial⟩
theorem bwd_dis {k : Int} (h : rEnd s { zPk with kind := k } 0 = .ok (a, b)) : (wEnd e0 a).c = 0 ∧ ((wEnd e0 a).s.size : Int) ≤ s.size ∧ Five a (cnEnd a) ∧ a.kind = k := by
  obtain ⟨c, l, rfl, h1, h2⟩ := bwd_end (o := e0) h rfl (beg0 s) rfl rfl
  exact ⟨h1, h2, ⟨rfl, rfl, rfl, rfl, rfl, (List.length_map _).symm⟩, by first | rfl | trivial⟩
/-! Lists. -/
theorem bwd_items {α : Type} (W : Ot → α → Ot) (add : Pk → α → Pk) (P : Pk → Prop)
    (hW : ∀ o p p' b, P p → o.c = 0 → Beg s o → rItem s p (o.s.size : Int) = .ok (p', b) → ∃ x, p' = add p x ∧ Kp s (W o x) b) (hP : ∀ p x, P p → P (add p x)) :
    ∀ (f : Nat) (o : Ot) (p : Pk), P p → o.c = 0 → Beg s o → rItems s f p (o.s.size : Int) = .ok (a, b) → ∃ l : List α, l.length ≤ f ∧ a = l.foldl add p ∧ Kp s (l.foldl W o) b ∧ ((o.s.size : Int) < s.size → l.length ≠ 0)
  | 0, o, p, hp, hc, hb, h => by
    unfold rItems at h
    by_cases hx : (o.s.size : Int) < s.size
    · rw [if_pos hx] at h; cases h
    · rw [if_neg hx] at h
      cases h
      exact ⟨[], Nat.le_refl _, rfl, ⟨hc, hb, rfl⟩, fun c => absurd c hx⟩
  | f + 1, o, p, hp, hc, hb, h => by
    by_cases hx : (o.s.size : Int) < s.size
    · rw [rItems_step hx] at h
      obtain ⟨p', b', r1, h⟩ := bindR_ok h
      obtain ⟨x, rfl, c1, b1, e1⟩ := hW o p p' b' hp hc hb r1
      subst e1
      obtain ⟨l, h1, h2, h3, _⟩ := bwd_items W add P hW hP f (W o x) (add p x) (hP p x hp) c1 b1 h
      exact ⟨x :: l, by simp only [List.length_cons]; omega, h2, h3, fun _ => by simp⟩
    · rw [rItems_stop hx] at h
      cases h
      exact ⟨[], Nat.zero_le _, rfl, ⟨hc, hb, rfl⟩, fun c => absurd c hx⟩
theorem sByte_of {f : ByteArray} {n : Int} (h0 : 0 ≤ n) (h1 : n % 4 < 3 ∧ n < 64) : sByte (sbOf f n) = n := by
  unfold sByte sbOf bt1
  simp only [decide_eq_true_eq]
  split <;> split <;> omega
theorem qos_at {n : Int} (h0 : 0 ≤ n) (h1 : n ≤ 2) : wQos o n = o := by unfold wQos; rw [if_neg (by omega)]
theorem bwd_sub {x : Sb} (h : rSub s (o.s.size : Int) = .ok (x, b)) (ho : o.c = 0) (hb : Beg s o) : Kp s (wSub o x) b := by
  unfold rSub at h
  obtain ⟨t, a1, r1, h⟩ := bindR_ok h
  obtain ⟨c1, b1, e1⟩ := kp_text r1 ho hb
  subst e1
  obtain ⟨n, a2, r2, h⟩ := bindR_ok h
  by_cases h1 : ¬ (n % 4 < 3 ∧ n < 64)
  · rw [if_pos h1] at h; cases h
  rw [if_neg h1] at h
  have h1 : n % 4 < 3 ∧ n < 64 := Classical.byContradiction h1
  by_cases h2 : n / 16 % 4 = 3
  · rw [if_pos h2] at h; cases h
  rw [if_neg h2] at h
  cases h
  have hr := num_range r2 rfl
  unfold wSub
  rw [sByte_of hr.1 h1]
  show Kp s (wNum 1 (wQos (wQos (wText o t) (n % 4)) (n / 16 % 4)) n) b
  rw [qos_at (o := wText o t) (by omega) (by omega), qos_at (by omega) (by omega)]
  exact kp_num r2 c1 b1
theorem some_at {n : Int} (h0 : n ≠ 0) (h1 : n ≤ 64) : wSome o n = o := by unfold wSome; rw [if_neg h0, if_neg (by omega)]
theorem bwd_lists {k : Int} (h : rLists s { zPk with kind := k } 0 = .ok (a, b)) : (wLists e0 a).c = 0 ∧ ((wLists e0 a).s.size : Int) ≤ s.size ∧ Five a (cnLists a) ∧ a.kind = k := by
  unfold rLists at h
  obtain ⟨n, a1, r1, h⟩ := bindR_ok h
  obtain ⟨c1, b1, e1⟩ := kp_id (o := e0) r1 rfl (beg0 s)
  subst e1
  obtain ⟨l, a2, r2, h⟩ := bindR_ok h
  obtain ⟨c2, b2, e2⟩ := kp_props r2 c1 b1
  subst e2
  simp only at h c2 b2
  by_cases hx : ((wProps k (wId e0 n) l).s.size : Int) < s.size
  · rw [if_pos hx] at h
    by_cases h8 : k = 8
    · subst h8
      obtain ⟨L, h1, rfl, ⟨c3, b3, e3⟩, h3⟩ := bwd_items wSub (fun p x => { p with subs := p.subs ++ [x] }) (fun p => p.kind = 8) (fun o p p' b hp hc hb hi => by
        unfold rItem at hi
        rw [if_pos hp] at hi
        obtain ⟨x, a3, r3, hi⟩ := bindR_ok hi
        cases hi
        exact ⟨x, rfl, bwd_sub r3 hc hb⟩) (fun p x hp => hp) 64 _ _ rfl c2 b2 h
      have h3 := h3 hx
      have hl3 := beg_le b3
      rw [add_subs]
      simp only [zPk, List.nil_append]
      unfold wLists
      simp only [if_true]
      unfold wSubs
      rw [some_at (by omega) (by omega), List.take_of_length_le h1]
      exact ⟨c3, by omega, ⟨rfl, rfl, rfl, rfl, rfl, (List.length_map _).symm⟩, by first | rfl | trivial⟩
    · by_cases h10 : k = 10
      · subst h10
        obtain ⟨L, h1, rfl, ⟨c3, b3, e3⟩, h3⟩ := bwd_items wText (fun p x => { p with filters := p.filters ++ [x] }) (fun p => p.kind = 10) (fun o p p' b hp hc hb hi => by
          unfold rItem at hi
          rw [if_neg (by omega), if_pos hp] at hi
          obtain ⟨x, a3, r3, hi⟩ := bindR_ok hi
          cases hi
          exact ⟨x, rfl, kp_text r3 hc hb⟩) (fun p x hp => hp) 64 _ _ rfl c2 b2 h
        have h3 := h3 hx
        have hl3 := beg_le b3
        rw [add_filters]
        simp only [zPk, List.nil_append]
        unfold wLists
        simp only [if_true]
        unfold wFilters
        rw [if_neg (by decide), some_at (by omega) (by omega), List.take_of_length_le h1]
        exact ⟨c3, by omega, ⟨rfl, rfl, rfl, rfl, rfl, (List.length_map _).symm⟩, by first | rfl | trivial⟩
      · obtain ⟨L, h1, rfl, ⟨c3, b3, e3⟩, h3⟩ := bwd_items (wNum 1) (fun p x => { p with codes := p.codes ++ [x] }) (fun p => p.kind = k) (fun o p p' b hp hc hb hi => by
          unfold rItem at hi
          rw [if_neg (by omega), if_neg (by omega)] at hi
          obtain ⟨x, a3, r3, hi⟩ := bindR_ok hi
          cases hi
          exact ⟨x, rfl, kp_num r3 hc hb⟩) (fun p x hp => hp) 64 _ _ rfl c2 b2 h
        have h3 := h3 hx
        have hl3 := beg_le b3
        rw [add_codes]
        simp only [zPk, List.nil_append]
        unfold wLists cnLists
        simp only [if_neg h8, if_neg h10]
        unfold wCodes
        rw [some_at (by omega) (by omega)]
        exact ⟨c3, by omega, ⟨rfl, rfl, rfl, rfl, rfl, (List.length_map _).symm⟩, by first | rfl | trivial⟩
  · rw [if_neg hx] at h; cases h
/-! A CONNECT. -/
theorem bwd_pass (h : rPass s p (o.s.size : Int) = .ok (a, b)) (ho : o.c = 0) (hb : Beg s o) : ∃ d, a = { p with pass := d } ∧ Kp s (cPass o a) b := by
  unfold rPass at h
  by_cases hp : p.hasPass = true
  · rw [if_pos hp] at h
    obtain ⟨d, a1, r1, h⟩ := bindR_ok h
    cases h
    refine ⟨d, rfl, ?_⟩
    unfold cPass
    simp only [if_pos hp]
    exact kp_data r1 ho hb
  · rw [if_neg hp] at h
    cases h
    refine ⟨p.pass, rfl, ?_⟩
    unfold cPass
    rw [if_neg hp]
    exact ⟨ho, hb, rfl⟩
theorem bwd_user (h : rUser s p (o.s.size : Int) = .ok (a, b)) (ho : o.c = 0) (hb : Beg s o) : ∃ t d, a = { p with user := t, pass := d } ∧ Kp s (cPass (cUser o a) a) b := by
  unfold rUser at h
  by_cases hp : p.hasUser = true
  · rw [if_pos hp] at h
    obtain ⟨t, a1, r1, h⟩ := bindR_ok h
    obtain ⟨c1, b1, e1⟩ := kp_text r1 ho hb
    subst e1
    obtain ⟨d, rfl, h2⟩ := bwd_pass h c1 b1
    refine ⟨t, d, rfl, ?_⟩
    unfold cUser
    simp only [if_pos hp]
    exact h2
  · rw [if_neg hp] at h
    obtain ⟨d, rfl, h2⟩ := bwd_pass h ho hb
    refine ⟨p.user, d, rfl, ?_⟩
    unfold cUser
    simp only [if_neg hp]
    exact h2
theorem bwd_will (h : rWill s p (o.s.size : Int) = .ok (a, b)) (ho : o.c = 0) (hb : Beg s o) : ∃ l t d u v, a = { p with wps := l, wt := t, wp := d, user := u, pass := v } ∧ Kp s (cPass (cUser (cWill o a) a) a) b := by
  unfold rWill at h
  by_cases hp : p.hasWill = true
  · rw [if_pos hp] at h
    obtain ⟨l, a1, r1, h⟩ := bindR_ok h
    obtain ⟨c1, b1, e1⟩ := kp_props r1 ho hb
    subst e1
    obtain ⟨t, a2, r2, h⟩ := bindR_ok h
    obtain ⟨c2, b2, e2⟩ := kp_text r2 c1 b1
    subst e2
    obtain ⟨d, a3, r3, h⟩ := bindR_ok h
    obtain ⟨c3, b3, e3⟩ := kp_data r3 c2 b2
    subst e3
    obtain ⟨u, v, rfl, h2⟩ := bwd_user h c3 b3
    refine ⟨l, t, d, u, v, rfl, ?_⟩
    unfold cWill
    simp only [if_pos hp]
    exact h2
  · rw [if_neg hp] at h
    obtain ⟨u, v, rfl, h2⟩ := bwd_user h ho hb
    refine ⟨p.wps, p.wt, p.wp, u, v, rfl, ?_⟩
    unfold cWill
    simp only [if_neg hp]
    exact h2
theorem bt1_bit (x k : Int) : bt1 (decide (x % 2 = 1)) k = if x % 2 = 1 then k else 0 := by unfold bt1; simp only [decide_eq_true_eq]
theorem flags_fwd {f : Int} (h0 : 0 ≤ f) (h1 : f < 256) (hb : ¬ badFl f) {q : Pk} (e1 : q.clean = decide (f / 2 % 2 = 1)) (e2 : q.hasWill = decide (f / 4 % 2 = 1)) (e3 : q.hasPass = decide (f / 64 % 2 = 1)) (e4 : q.hasUser = decide (f / 128 % 2 = 1)) (e5 : q.wq = f / 8 % 4) (e6 : q.wr = decide (f / 32 % 2 = 1)) : cFlags q = f := by
  unfold badFl at hb
  have hb := Classical.byContradiction hb
  unfold cFlags
  rw [e1, e2, e3, e4, e5, e6, bt1_bit, bt1_bit, bt1_bit, bt1_bit]
  simp only [decide_eq_true_eq]
  have m1 : f / 2 % 2 = 0 ∨ f / 2 % 2 = 1 := by omega
  have m2 : f / 64 % 2 = 0 ∨ f / 64 % 2 = 1 := by omega
  have m3 : f / 128 % 2 = 0 ∨ f / 128 % 2 = 1 := by omega
  have m4 : f / 4 % 2 = 0 ∨ f / 4 % 2 = 1 := by omega
  have m5 : f / 32 % 2 = 0 ∨ f / 32 % 2 = 1 := by omega
  rcases m1 with m1 | m1 <;> rcases m2 with m2 | m2 <;> rcases m3 with m3 | m3 <;> rcases m4 with m4 | m4 <;> rcases m5 with m5 | m5 <;> simp only [m1, m2, m3, m4, m5, if_true, if_false, Int.reduceEq] <;> omega
theorem bwd_conn (h : rConn s { zPk with kind := 1 } 0 = .ok (a, b)) : (wConnect e0 a).c = 0 ∧ ((wConnect e0 a).s.size : Int) ≤ s.size ∧ Five a (cnConn a) ∧ a.kind = 1 := by
  unfold rConn at h
  obtain ⟨t, a1, r1, h⟩ := bindR_ok h
  obtain ⟨c1, b1, e1⟩ := kp_text (o := e0) r1 rfl (beg0 s)
  subst e1
  by_cases ht : t ≠ name5
  · rw [if_pos ht] at h; cases h
  rw [if_neg ht] at h
  have ht : t = name5 := Classical.byContradiction ht
  subst ht
  obtain ⟨v, a2, r2, h⟩ := bindR_ok h
  obtain ⟨c2, b2, e2⟩ := kp_num r2 c1 b1
  subst e2
  by_cases hv : v ≠ 5
  · rw [if_pos hv] at h; cases h
  rw [if_neg hv] at h
  have hv : v = 5 := Classical.byContradiction hv
  subst hv
  obtain ⟨f, a3, r3, h⟩ := bindR_ok h
  obtain ⟨c3, b3, e3⟩ := kp_num r3 c2 b2
  subst e3
  have hr := num_range r3 rfl
  by_cases hf : badFl f
  · rw [if_pos hf] at h; cases h
  rw [if_neg hf] at h
  unfold rKeep at h
  obtain ⟨n, a4, r4, h⟩ := bindR_ok h
  obtain ⟨c4, b4, e4⟩ := kp_num r4 c3 b3
  subst e4
  obtain ⟨l, a5, r5, h⟩ := bindR_ok h
  obtain ⟨c5, b5, e5⟩ := kp_props r5 c4 b4
  subst e5
  obtain ⟨cl, a6, r6, h⟩ := bindR_ok h
  obtain ⟨c6, b6, e6⟩ := kp_text r6 c5 b5
  subst e6
  obtain ⟨wl, wt, wd, u, v, ha, c7, b7, e7⟩ := bwd_will h c6 b6
  have hfl : cFlags a = f := by rw [ha]; exact flags_fwd hr.1 hr.2 hf rfl rfl rfl rfl rfl rfl
  have hq : a.wq = f / 8 % 4 := by rw [ha]; rfl
  have hk : a.keep = n := by rw [ha]
  have hps : a.ps = l := by rw [ha]
  have hcl : a.client = cl := by rw [ha]
  have hbad := hf
  unfold badFl at hbad
  have hbad := Classical.byContradiction hbad
  have hh : cHead e0 a = wText (wProps 1 (wNum 2 (wNum 1 (wNum 1 (wText e0 name5) 5) f) n) l) cl := by
    unfold cHead
    rw [hfl, hk, hps, hcl, hq, qos_at (by omega) (by omega)]
    simp only [ite_self]
  unfold wConnect
  rw [hh]
  have hl7 := beg_le b7
  refine ⟨c7, by omega, ?_, by rw [ha]; rfl⟩
  rw [ha]
  exact ⟨rfl, rfl, rfl, rfl, rfl, (List.length_map _).symm⟩
end
end Go.Proofs.YtedapgeabpadaaaDoor

/- Plain facts: no number's bytes begin another one's; a greater number takes no fewer bytes. -/
namespace Go.Proofs.YtedapgeabpadaaaDoor.Pl
open Go.PlainAid (bt bt_nonneg bt_le get_bt bt_end)
theorem sz_mono {a b : Int} (h0 : 0 ≤ a) (h : a ≤ b) (h1 : b ≤ 268435455) : sz a ≤ sz b := by
  unfold sz
  rw [if_neg (show ¬ (a < 0 ∨ 268435455 < a) by omega), if_neg (show ¬ (b < 0 ∨ 268435455 < b) by omega)]
  repeat' split
  all_goals omega
theorem enc_room {n : Int} (h0 : 0 ≤ n) (h1 : n ≤ 268435455) {r : Nat} (hr : sz n = r + 1) : n < 128 ^ (r + 1) ∧ (0 < r → 128 ^ r ≤ n) := by
  have hp := sz_pos h0 h1
  obtain rfl | rfl | rfl | rfl : r = 0 ∨ r = 1 ∨ r = 2 ∨ r = 3 := by omega
  all_goals
    unfold sz at hr
    rw [if_neg (by omega)] at hr
    refine ⟨?_, ?_⟩
    all_goals simp
    all_goals (repeat' split at hr)
    all_goals omega
theorem get_of {s : ByteArray} {n : Int} (h0 : 0 ≤ n) (h1 : n ≤ 268435455) (hlen : (enc n).length ≤ s.size) (hb : ∀ j (h : j < (enc n).length), bt s j = (((enc n)[j]).toNat : Int)) : getV s 0 = (n, sz n, 0) := by
  have hp := sz_pos h0 h1
  obtain ⟨r, hr⟩ : ∃ r : Nat, sz n = r + 1 := ⟨(sz n - 1).toNat, by omega⟩
  have hlt := enc_room h0 h1 hr
  have he : enc n = vb n (r + 1) := by unfold enc; rw [hr]; rfl
  have := gi_vb s (r + 1) 4 0 0 n 0 (by omega) (by omega) h0 hlt.1 (fun hc => by simp only [Nat.add_sub_cancel]; exact hlt.2 (by omega)) (fun j hj => by
    rw [Nat.zero_add]
    have hj2 : j < (enc n).length := by rw [he]; exact hj
    rw [hb _ hj2]
    congr 2
    have e2 : ∀ (l l' : List UInt8) (hl : j < l.length) (hll : l = l'), l[j] = l'[j]'(hll ▸ hl) := by intro l l' hl hll; subst hll; rfl
    exact e2 _ _ _ he) (by rw [he, vb_length] at hlen; omega)
  rw [show (0 : Int) = ((0 : Nat) : Int) from rfl, getV_ok (by omega), this, hr]
  simp
theorem enc_prefix {a b : Int} (a0 : 0 ≤ a) (h : a < b) (b1 : b ≤ 268435455) : (⟨(enc b).toArray⟩ : ByteArray).extract 0 (enc a).length ≠ ⟨(enc a).toArray⟩ := by
  intro he
  have hm := sz_mono a0 (Int.le_of_lt h) b1
  have la := enc_length a
  have lb := enc_length b
  have hsz : (⟨(enc b).toArray⟩ : ByteArray).size = (enc b).length := by simp [ByteArray.size]
  have g1 := get_of (s := ⟨(enc b).toArray⟩) a0 (by omega) (by omega) (fun j hj => by
    rw [bt_list _ _ (by omega)]
    congr 2
    have e1 : ((enc b).take (enc a).length) = enc a := by
      have := congrArg (fun s : ByteArray => s.data.toList) he
      simpa using this
    have e2 : ((enc b).take (enc a).length)[j]'(by rw [e1]; exact hj) = (enc a)[j] := by
      have e3 : ∀ (l l' : List UInt8) (hl : j < l.length) (hll : l = l'), l[j] = l'[j]'(hll ▸ hl) := by intro l l' hl hll; subst hll; rfl
      exact e3 _ _ _ e1
    rw [← e2, List.getElem_take])
  have g2 := get_enc (n := b) (by omega) b1
  rw [g1] at g2
  injection g2 with h3
  omega
theorem orders_fin {X Y : Int} (h0 : 0 ≤ X) (h : X ≤ Y) (h1 : Y ≤ 268435455) :
    (X == Y || decide (sz Y < sz X) || !((⟨(enc Y).toArray⟩ : ByteArray).extract 0 (sz X).toNat).toList == enc X) = true := by
  by_cases he : X = Y
  · subst he; simp
  · have hp := enc_prefix (a := X) (b := Y) h0 (by omega) h1
    have hl : (sz X).toNat = (enc X).length := (enc_length X).symm
    rw [hl]
    have : ((⟨(enc Y).toArray⟩ : ByteArray).extract 0 (enc X).length).toList ≠ enc X := by
      intro hc
      apply hp
      rw [ByteArray.toList_eq] at hc
      apply ByteArray.ext
      apply Array.ext'
      exact hc
    have h2 : (((⟨(enc Y).toArray⟩ : ByteArray).extract 0 (enc X).length).toList == enc X) = false := by simpa using this
    rw [h2]
    simp
end Go.Proofs.YtedapgeabpadaaaDoor.Pl

/- What a packet's bytes are read back as, put again: plain. -/
namespace Go.Proofs.YtedapgeabpadaaaDoor
set_option linter.unusedVariables false
set_option linter.unusedSimpArgs false
open Go.RowKit Pl Go.PlainAid

theorem cn_kind (q : Pk) : (cn q).kind = q.kind := by
  unfold cn
  (repeat' split) <;> first | rfl | (rename_i h; exact h.symm) | skip
  all_goals (unfold cnLists; (repeat' split) <;> rfl)
theorem cn_head (q : Pk) : wHead (cn q) = wHead q := by
  unfold wHead
  rw [cn_kind]
  by_cases h3 : q.kind = 3
  · rw [if_pos h3, if_pos h3]
    have : cn q = cnPub q := by unfold cn; rw [if_neg (by omega), if_neg (by omega), if_pos h3]
    rw [this]
    rfl
  · rw [if_neg h3, if_neg h3]
theorem cn_flags (q : Pk) : pFlags (cn q) = pFlags q := by
  unfold pFlags
  rw [cn_kind]
  by_cases h3 : q.kind = 3
  · rw [if_pos h3, if_pos h3]
    have : cn q = cnPub q := by unfold cn; rw [if_neg (by omega), if_neg (by omega), if_pos h3]
    rw [this]
    rfl
  · rw [if_neg h3, if_neg h3]
theorem cn_all {q : Pk} (hc : (wAll q).c = 0) : wAll (cn q) = wAll q := by
  unfold wAll at hc ⊢
  rw [cn_head]
  generalize wHead q = o at hc ⊢
  unfold wBody at hc ⊢
  rw [cn_kind]
  unfold cn
  by_cases h1 : q.kind = 1
  · simp only [if_pos h1] at hc ⊢
    exact cn_conn hc
  simp only [if_neg h1] at hc ⊢
  by_cases h2 : q.kind = 2
  · simp only [if_pos h2] at hc ⊢
    exact cn_connack hc
  simp only [if_neg h2] at hc ⊢
  by_cases h3 : q.kind = 3
  · simp only [if_pos h3] at hc ⊢
    exact cn_pub hc
  simp only [if_neg h3] at hc ⊢
  by_cases h4 : q.kind = 4 ∨ q.kind = 5 ∨ q.kind = 6 ∨ q.kind = 7
  · simp only [if_pos h4] at hc ⊢
    exact cn_wEnd hc rfl rfl rfl
  simp only [if_neg h4] at hc ⊢
  by_cases h5 : q.kind = 14 ∨ q.kind = 15
  · simp only [if_pos h5] at hc ⊢
    exact cn_wEnd hc rfl rfl rfl
  simp only [if_neg h5] at hc ⊢
  by_cases h6 : q.kind = 8 ∨ q.kind = 9 ∨ q.kind = 10 ∨ q.kind = 11
  · simp only [if_pos h6] at hc ⊢
    exact cn_lists hc
  simp only [if_neg h6] at hc ⊢
/-- Put again: the same bytes. -/
theorem cn_pk {q : Pk} (h : pkC q = 0) : pkC (cn q) = 0 ∧ pkS (cn q) = pkS q := by
  obtain ⟨k1, k2, hc, _⟩ := pk_zero h
  have ha := cn_all hc
  have h2 : pkC (cn q) = 0 := by
    unfold pkC at h ⊢
    rw [cn_kind, ha]
    exact h
  refine ⟨h2, ?_⟩
  unfold pkS
  rw [h2, h, cn_kind, cn_flags, ha]
theorem hdO_some {h : Int} {p : Pk} (h0 : 0 ≤ h) (h1 : h < 256) (e : hdO h = some p) :
    1 ≤ p.kind ∧ p.kind ≤ 15 ∧ ((p = { zPk with kind := p.kind } ∧ p.kind ≠ 3) ∨ (∃ d q r, p = { zPk with kind := 3, dup := d, q := q, ret := r } ∧ 0 ≤ q ∧ q ≤ 2 ∧ (d = true → 0 < q))) := by
  unfold hdO at e
  by_cases hz : h / 16 = 0
  · rw [if_pos hz] at e; cases e
  rw [if_neg hz] at e
  by_cases h3 : h / 16 = 3
  · rw [if_pos h3] at e
    by_cases hq : h / 2 % 4 < 3 ∧ (h / 8 % 2 = 0 ∨ 0 < h / 2 % 4)
    · rw [if_pos hq] at e
      cases e
      refine ⟨by simp, by simp, .inr ⟨_, _, _, rfl, by omega, by omega, fun hd => ?_⟩⟩
      have := of_decide_eq_true hd
      omega
    · rw [if_neg hq] at e; cases e
  · rw [if_neg h3] at e
    by_cases hk : h % 16 = kFlags (h / 16)
    · rw [if_pos hk] at e
      cases e
      exact ⟨by simp only; omega, by simp only; omega, .inl ⟨rfl, h3⟩⟩
    · rw [if_neg hk] at e; cases e
theorem bwd_kind {s : ByteArray} {p a : Pk} {b : Int} (hp : (p = { zPk with kind := p.kind } ∧ p.kind ≠ 3) ∨ (∃ d q r, p = { zPk with kind := 3, dup := d, q := q, ret := r } ∧ 0 ≤ q ∧ q ≤ 2 ∧ (d = true → 0 < q)))
    (h : rKind s p 0 = .ok (a, b)) : (wAll a).c = 0 ∧ ((wAll a).s.size : Int) ≤ s.size ∧ Five a (cn a) ∧ a.kind = p.kind := by
  unfold rKind at h
  rcases hp with ⟨hp, hn3⟩ | ⟨d, q, r, rfl, q0, q1, q2⟩
  · obtain ⟨k, hk⟩ : ∃ k, p.kind = k := ⟨_, rfl⟩
    rw [hk] at hp hn3 h ⊢
    subst hp
    suffices hs : a.kind = k → (wBody e0 a).c = 0 ∧ ((wBody e0 a).s.size : Int) ≤ s.size ∧ Five a (cn a) ∧ a.kind = k by
      have hk2 : a.kind = k := by
        by_cases h1 : k = 1
        · rw [if_pos h1] at h; subst h1; exact (bwd_conn h).2.2.2
        rw [if_neg h1] at h
        by_cases h2 : k = 2
        · rw [if_pos h2] at h; subst h2; exact (bwd_connack h).2.2.2
        rw [if_neg h2, if_neg hn3] at h
        by_cases h4 : k = 4 ∨ k = 5 ∨ k = 6 ∨ k = 7
        · rw [if_pos h4] at h; exact (bwd_ack h).2.2.2
        rw [if_neg h4] at h
        by_cases h5 : k = 14 ∨ k = 15
        · rw [if_pos h5] at h; exact (bwd_dis h).2.2.2
        rw [if_neg h5] at h
        by_cases h6 : k = 8 ∨ k = 9 ∨ k = 10 ∨ k = 11
        · rw [if_pos h6] at h; exact (bwd_lists h).2.2.2
        rw [if_neg h6] at h
        cases h
        rfl
      have he : wHead a = e0 := by unfold wHead; rw [if_neg (by omega)]; rfl
      unfold wAll
      rw [he]
      exact hs hk2
    intro hk2
    refine (fun (h : (wBody e0 a).c = 0 ∧ ((wBody e0 a).s.size : Int) ≤ s.size ∧ Five a (cn a)) => ⟨h.1, h.2.1, h.2.2, hk2⟩) ?_
    unfold wBody cn
    rw [hk2]
    by_cases h1 : k = 1
    · rw [if_pos h1] at h; simp only [if_pos h1]; subst h1; exact ⟨(bwd_conn h).1, (bwd_conn h).2.1, (bwd_conn h).2.2.1⟩
    rw [if_neg h1] at h
    simp only [if_neg h1]
    by_cases h2 : k = 2
    · rw [if_pos h2] at h; simp only [if_pos h2]; subst h2; exact ⟨(bwd_connack h).1, (bwd_connack h).2.1, (bwd_connack h).2.2.1⟩
    rw [if_neg h2, if_neg hn3] at h
    simp only [if_neg h2, if_neg hn3]
    by_cases h4 : k = 4 ∨ k = 5 ∨ k = 6 ∨ k = 7
    · rw [if_pos h4] at h; simp only [if_pos h4]; exact ⟨(bwd_ack h).1, (bwd_ack h).2.1, (bwd_ack h).2.2.1⟩
    rw [if_neg h4] at h
    simp only [if_neg h4]
    by_cases h5 : k = 14 ∨ k = 15
    · rw [if_pos h5] at h; simp only [if_pos h5]; exact ⟨(bwd_dis h).1, (bwd_dis h).2.1, (bwd_dis h).2.2.1⟩
    rw [if_neg h5] at h
    simp only [if_neg h5]
    by_cases h6 : k = 8 ∨ k = 9 ∨ k = 10 ∨ k = 11
    · rw [if_pos h6] at h; simp only [if_pos h6]; exact ⟨(bwd_lists h).1, (bwd_lists h).2.1, (bwd_lists h).2.2.1⟩
    rw [if_neg h6] at h
    simp only [if_neg h6]
    cases h
    exact ⟨rfl, Int.natCast_nonneg _, ⟨rfl, rfl, rfl, rfl, rfl, rfl⟩⟩
  · simp only [if_true, if_neg (show ¬ (3 : Int) = 1 by decide), if_neg (show ¬ (3 : Int) = 2 by decide)] at h
    obtain ⟨h1, h2, h3, h4, h5, h6⟩ := bwd_pub h
    have he : wHead a = e0 := by
      unfold wHead
      rw [if_pos h4, h5, h6, if_neg (fun c => by have := q2 c.1; omega), qos_at q0 q1]
      rfl
    unfold wAll wBody cn
    rw [he, h4]
    exact ⟨h1, h2, h3, rfl⟩
theorem bwd_body {s : ByteArray} {p a : Pk} {b : Int} (hp : (p = { zPk with kind := p.kind } ∧ p.kind ≠ 3) ∨ (∃ d q r, p = { zPk with kind := 3, dup := d, q := q, ret := r } ∧ 0 ≤ q ∧ q ≤ 2 ∧ (d = true → 0 < q)))
    (h : rBody s p 0 = .ok (a, b)) : (wAll a).c = 0 ∧ ((wAll a).s.size : Int) ≤ s.size ∧ Five a (cn a) ∧ a.kind = p.kind := by
  unfold rBody at h
  obtain ⟨a', b', r1, h⟩ := bindR_ok h
  by_cases hx : b' < s.size
  · rw [if_pos hx] at h; cases h
  · rw [if_neg hx] at h
    cases h
    exact bwd_kind hp r1
end Go.Proofs.YtedapgeabpadaaaDoor

/- A packet's bytes cut off, with more behind, with other flags; what was read, put again: plain. -/
namespace Go.Proofs.YtedapgeabpadaaaDoor
set_option linter.unusedVariables false
set_option linter.unusedSimpArgs false
open Go.RowKit Pl Go.PlainAid

theorem bt_range {s : ByteArray} (j : Nat) : 0 ≤ bt s j ∧ bt s j < 256 := by
  unfold bt
  (try split) <;> first | omega | (have := (s[j]).toNat_lt; omega) | skip
/-! No code is nought. -/
def NZ {α : Type} (r : RR α) : Prop := ∀ c, r = .error c → c ≠ 0
theorem nz_bind {α β : Type} {r : RR α} {k : α → Int → RR β} (h : NZ r) (hk : ∀ v a, NZ (k v a)) : NZ (bindR r k) := by
  cases r with
  | error c => intro d hd; cases hd; exact h _ rfl
  | ok v => obtain ⟨v, a⟩ := v; exact hk v a
theorem nz_err {α : Type} {c : Int} (h : c ≠ 0) : NZ (.error c : RR α) := fun d hd => by cases hd; exact h
theorem nz_ok {α : Type} {v : α × Int} : NZ (.ok v : RR α) := fun d hd => by cases hd
theorem nz_ite {α : Type} {p : Prop} [Decidable p] {x y : RR α} (h1 : NZ x) (h2 : NZ y) : NZ (if p then x else y) := by split; exact h1; exact h2
theorem nz_num {s : ByteArray} {k a : Int} : NZ (rNum s k a) := nz_ite nz_ok (nz_err (by decide))
theorem nz_text {s : ByteArray} {a : Int} : NZ (rText s a) := nz_ite nz_ok (nz_err (by decide))
theorem nz_data {s : ByteArray} {a : Int} : NZ (rData s a) := nz_ite nz_ok (nz_err (by decide))
theorem nz_id {s : ByteArray} {a : Int} : NZ (rId s a) := nz_bind nz_num fun v a => nz_ite (nz_err (by decide)) nz_ok
theorem nz_props {k : Int} {s : ByteArray} {a : Int} : NZ (rProps k s a) := by
  unfold rProps
  refine nz_ite (nz_err (by decide)) ?_
  split
  · rename_i h; exact nz_err h
  · exact nz_ite (nz_err (by decide)) nz_ok
theorem nz_sub {s : ByteArray} {a : Int} : NZ (rSub s a) := nz_bind nz_text fun v a => nz_bind nz_num fun v a => nz_ite (nz_err (by decide)) (nz_ite (nz_err (by decide)) nz_ok)
theorem nz_item {s : ByteArray} {p : Pk} {a : Int} : NZ (rItem s p a) := nz_ite (nz_bind nz_sub fun v a => nz_ok) (nz_ite (nz_bind nz_text fun v a => nz_ok) (nz_bind nz_num fun v a => nz_ok))
theorem nz_items {s : ByteArray} : ∀ (f : Nat) (p : Pk) (a : Int), NZ (rItems s f p a)
  | 0, p, a => nz_ite (nz_err (by decide)) nz_ok
  | f + 1, p, a => nz_ite (nz_bind nz_item fun v a => nz_items f v a) nz_ok
theorem nz_lists {s : ByteArray} {p : Pk} {a : Int} : NZ (rLists s p a) := nz_bind nz_id fun v a => nz_bind nz_props fun v a => nz_ite (nz_items _ _ _) (nz_err (by decide))
theorem nz_endP {s : ByteArray} {p : Pk} {a : Int} : NZ (rEndP s p a) := nz_ite (nz_bind nz_props fun v a => nz_ok) nz_ok
theorem nz_end {s : ByteArray} {p : Pk} {a : Int} : NZ (rEnd s p a) := nz_ite (nz_bind nz_num fun v a => nz_endP) nz_endP
theorem nz_ack {s : ByteArray} {p : Pk} {a : Int} : NZ (rAck s p a) := nz_bind nz_id fun v a => nz_end
theorem nz_payl {s : ByteArray} {p : Pk} {a : Int} : NZ (rPayl s p a) := nz_bind nz_props fun v a => nz_ok
theorem nz_pub {s : ByteArray} {p : Pk} {a : Int} : NZ (rPub s p a) := nz_bind nz_text fun v a => nz_ite (nz_bind nz_id fun v a => nz_payl) nz_payl
theorem nz_connack {s : ByteArray} {p : Pk} {a : Int} : NZ (rConnack s p a) := nz_bind nz_num fun v a => nz_ite (nz_err (by decide)) (nz_bind nz_num fun v a => nz_bind nz_props fun v a => nz_ok)
theorem nz_pass {s : ByteArray} {p : Pk} {a : Int} : NZ (rPass s p a) := nz_ite (nz_bind nz_data fun v a => nz_ok) nz_ok
theorem nz_user {s : ByteArray} {p : Pk} {a : Int} : NZ (rUser s p a) := nz_ite (nz_bind nz_text fun v a => nz_pass) nz_pass
theorem nz_will {s : ByteArray} {p : Pk} {a : Int} : NZ (rWill s p a) := nz_ite (nz_bind nz_props fun v a => nz_bind nz_text fun v a => nz_bind nz_data fun v a => nz_user) nz_user
theorem nz_keep {s : ByteArray} {p : Pk} {a : Int} : NZ (rKeep s p a) := nz_bind nz_num fun v a => nz_bind nz_props fun v a => nz_bind nz_text fun v a => nz_will
theorem nz_conn {s : ByteArray} {p : Pk} {a : Int} : NZ (rConn s p a) := nz_bind nz_text fun v a => nz_ite (nz_err (by decide)) (nz_bind nz_num fun v a => nz_ite (nz_err (by decide)) (nz_bind nz_num fun v a => nz_ite (nz_err (by decide)) nz_keep))
theorem nz_kind {s : ByteArray} {p : Pk} {a : Int} : NZ (rKind s p a) := nz_ite nz_conn (nz_ite nz_connack (nz_ite nz_pub (nz_ite nz_ack (nz_ite nz_end (nz_ite nz_lists nz_ok)))))
theorem nz_body {s : ByteArray} {p : Pk} {a : Int} : NZ (rBody s p a) := nz_bind nz_kind fun v a => nz_ite (nz_err (by decide)) nz_ok
theorem get_code {s : ByteArray} : (pkGet s).2 ≠ 0 → (pkGet s).1 = zPk := by
  unfold pkGet
  split
  · exact fun _ => rfl
  · split
    · exact fun _ => rfl
    · (repeat' split) <;> first | exact fun _ => rfl | exact fun h => absurd rfl h
/-- What was read, put again: no more bytes, and nothing told is lost. -/
theorem bwd_pk {s : ByteArray} {a : Pk} (h : pkGet s = (a, 0)) : pkC a = 0 ∧ (pkS a).size ≤ s.size ∧ Five a (cn a) := by
  unfold pkGet at h
  by_cases h0 : s.size = 0
  · rw [if_pos h0] at h; injection h with _ h; cases h
  rw [if_neg h0] at h
  have hbr := bt_range (s := s) 0
  cases hd : hdO (bt s 0) with
  | none => rw [hd] at h; injection h with _ h; cases h
  | some p =>
    rw [hd] at h
    simp only at h
    obtain ⟨k1, k2, hp⟩ := hdO_some hbr.1 hbr.2 hd
    obtain ⟨⟨n, from_, c⟩, hg⟩ : ∃ g, getV s 1 = g := ⟨_, rfl⟩
    rw [hg] at h
    simp only at h
    by_cases hc : c ≠ 0
    · rw [if_pos hc] at h; injection h with _ h; exact absurd h hc
    rw [if_neg hc] at h
    have hc : c = 0 := Classical.byContradiction hc
    subst hc
    by_cases hL : 65536 < n
    · rw [if_pos hL] at h; injection h with _ h; cases h
    rw [if_neg hL] at h
    by_cases h2 : (s.size : Int) - from_ < n
    · rw [if_pos h2] at h; injection h with _ h; cases h
    rw [if_neg h2] at h
    by_cases h3 : (s.size : Int) - from_ ≠ n
    · rw [if_pos h3] at h; injection h with _ h; cases h
    rw [if_neg h3] at h
    obtain ⟨i, j, hi, hj, hij, hjs, hlen, hn0, hn1⟩ := getV_to hg
    have hg' : getV s ((1 : Nat) : Int) = (n, from_, 0) := hg
    obtain ⟨hh, hto, hn0, hn1⟩ := has_getV hg'
    obtain ⟨u, hu⟩ : ∃ u, s.extract from_.toNat s.size = u := ⟨_, rfl⟩
    have hus : (u.size : Int) = n := by rw [← hu, ByteArray.size_extract]; omega
    rw [hu] at h
    cases hb : rBody u p 0 with
    | error c =>
      rw [hb] at h
      simp only at h
      injection h with ha hc0
      subst hc0
      exact absurd rfl (nz_body _ hb)
    | ok v =>
      obtain ⟨q, b⟩ := v
      rw [hb] at h
      simp only at h
      injection h with ha _
      subst ha
      obtain ⟨w1, w2, w3, w4⟩ := bwd_body hp hb
      have hpk : pkC q = 0 := by
        unfold pkC
        rw [if_neg (by omega), if_neg (by omega), if_neg (by omega)]
      refine ⟨hpk, ?_, w3⟩
      have hz := (pk_shp hpk).size
      have hm : sz (wAll q).s.size ≤ sz n := sz_mono (by omega) (by omega) (by omega)
      have e1 := enc_length ((wAll q).s.size : Int)
      have e2 := enc_length n
      have p1 := sz_pos (n := n) hn0 hn1
      omega
/-- Cut off. -/
theorem pk_cut {q : Pk} (h : pkC q = 0) {c : Nat} (hc : c < (pkS q).size) : pkGet ((pkS q).extract 0 c) = (zPk, 242) := by
  have hs := pk_shp h
  by_cases h0 : c = 0
  · subst h0
    unfold pkGet
    rw [if_pos (by rw [ByteArray.size_extract]; omega)]
  obtain ⟨b0, hz, hv⟩ := shp_cut hs (by omega) hc
  have hL := hs.L1
  unfold pkGet
  rw [if_neg (by omega), b0, hdO_fwd h]
  simp only
  rcases hv with hv | ⟨hv, v1, v2⟩
  · rw [hv]
    simp
  · rw [hv, hz]
    simp only
    rw [if_neg (by omega), if_neg (by omega), if_pos (by omega)]
/-- With more behind. -/
theorem pk_more {q : Pk} (h : pkC q = 0) {t : ByteArray} (ht : 0 < t.size) : pkGet (pkS q ++ t) = (zPk, 129) := by
  have hs := pk_shp h
  obtain ⟨b0, hv⟩ := shp_more (t := t) hs
  have hL := hs.L1
  have hz := hs.size
  unfold pkGet
  rw [if_neg (by rw [ByteArray.size_append]; omega), b0, hdO_fwd h]
  simp only
  rw [hv]
  simp only
  rw [ByteArray.size_append, if_neg (by omega), if_neg (by omega), if_neg (by omega), if_pos (by omega)]
/-- With other flags. -/
theorem pk_flags {q : Pk} (h : pkC q = 0) (h3 : q.kind ≠ 3) {s : ByteArray} {f : Int} (f0 : 0 ≤ f) (f1 : f < 16) (hne : f ≠ pFlags q) (hs : s.size ≠ 0) (hb : bt s 0 = 16 * q.kind + f) : pkGet s = (zPk, 129) := by
  obtain ⟨k1, k2, _, _⟩ := pk_zero h
  have hn : hdO (bt s 0) = none := by
    unfold hdO
    rw [hb, if_neg (by omega), if_neg (by omega)]
    have e : pFlags q = kFlags q.kind := by unfold pFlags; rw [if_neg h3]
    have d1 : (16 * q.kind + f) / 16 = q.kind := by omega
    have d2 : (16 * q.kind + f) % 16 = f := by omega
    rw [d1, d2, ← e, if_neg hne]
  unfold pkGet
  rw [if_neg hs, hn]
end Go.Proofs.YtedapgeabpadaaaDoor

/- A packet that was read is one that a machine holds: plain. -/
namespace Go.Proofs.YtedapgeabpadaaaDoor
set_option linter.unusedVariables false
set_option linter.unusedSimpArgs false
open Go.RowKit Pl Go.PlainAid

theorem ps_fits {M : List Pp} (h : ppC M = 0) (hn : M.map nrm = M) : M.length ≤ 64 ∧ ∀ p ∈ M, p.fits := by
  have h64 : ¬ 64 < M.length := by
    intro c; rw [(pp_long c).1] at h; cases h
  have h1 := getP_back h
  rw [hn] at h1
  exact ⟨by omega, (back_getP h1).2.2.1⟩
theorem rProps_fits {k : Int} {s : ByteArray} {a b : Int} {L : List Pp} (h : rProps k s a = .ok (L, b)) : L.length ≤ 1048576 ∧ ∀ p ∈ L, p.fits := by
  obtain ⟨i, _, _, h1, _, _, h2⟩ := has_rProps h
  have := ps_fits h1 h2
  exact ⟨by omega, this.2⟩
theorem rText_fits {s t : ByteArray} {a b : Int} (h : rText s a = .ok (t, b)) : t.size ≤ 1048576 := by
  obtain ⟨i, _, h1, _, _⟩ := has_rText h
  have := (dataS_len (tputC_zero h1).2.1).1
  omega
theorem rData_fits {s t : ByteArray} {a b : Int} (h : rData s a = .ok (t, b)) : t.size ≤ 1048576 := by
  obtain ⟨i, _, h1, _, _⟩ := has_rData h
  have := (dataS_len h1).1
  omega
theorem rNum_fits {s : ByteArray} {k a n b : Int} (h : rNum s k a = .ok (n, b)) : i64B n := by
  obtain ⟨i, _, hf, _, _⟩ := has_rNum h
  obtain ⟨j, hj, hj2, h0, h1⟩ := fixC_zero hf
  rcases hj2 with rfl | rfl | rfl
  all_goals (simp at h1; unfold i64B; omega)
theorem num_255 {s : ByteArray} {a n b : Int} (h : rNum s 1 a = .ok (n, b)) : 0 ≤ n ∧ n ≤ 255 := by have := num_range h rfl; omega
theorem rId_fits {s : ByteArray} {a n b : Int} (h : rId s a = .ok (n, b)) : i64B n := by
  unfold rId at h
  obtain ⟨m, a1, r1, h⟩ := bindR_ok h
  split at h
  · cases h
  · cases h; exact rNum_fits r1
theorem zPk_fits : zPk.fits := by
  refine ⟨by unfold i64B; decide, by unfold i64B; decide, by unfold i64B; decide, by unfold i64B; decide, by unfold i64B; decide, by decide, by decide, by decide, by decide, by decide, by decide, by decide, by decide, ⟨by decide, fun x h => by cases h⟩, ⟨by decide, fun x h => by cases h⟩, ⟨by decide, fun x h => by cases h⟩, ⟨by decide, fun x h => by cases h⟩, ⟨by decide, fun x h => by cases h⟩⟩
section
variable {s : ByteArray} {p q : Pk} {a b : Int}
theorem fit_payl (hz : s.size ≤ 1048576) (hp : p.fits) (h : rPayl s p a = .ok (q, b)) : q.fits := by
  unfold rPayl at h
  obtain ⟨l, a1, r1, h⟩ := bindR_ok h
  cases h
  exact { hp with ps := rProps_fits r1, payload := by simp only [ByteArray.size_extract]; omega }
theorem fit_pub (hz : s.size ≤ 1048576) (hp : p.fits) (h : rPub s p a = .ok (q, b)) : q.fits := by
  unfold rPub at h
  obtain ⟨t, a1, r1, h⟩ := bindR_ok h
  split at h
  · obtain ⟨n, a2, r2, h⟩ := bindR_ok h
    refine fit_payl hz ?_ h; exact { hp with topic := rText_fits r1, id := rId_fits r2 }
  · refine fit_payl hz ?_ h; exact { hp with topic := rText_fits r1 }
theorem fit_connack (hp : p.fits) (h : rConnack s p a = .ok (q, b)) : q.fits := by
  unfold rConnack at h
  obtain ⟨n, a1, r1, h⟩ := bindR_ok h
  split at h
  · cases h
  obtain ⟨c, a2, r2, h⟩ := bindR_ok h
  obtain ⟨l, a3, r3, h⟩ := bindR_ok h
  cases h
  exact { hp with code := num_255 r2, ps := rProps_fits r3 }
theorem fit_endP (hp : p.fits) (h : rEndP s p a = .ok (q, b)) : q.fits := by
  unfold rEndP at h
  split at h
  · obtain ⟨l, a3, r3, h⟩ := bindR_ok h
    cases h
    exact { hp with ps := rProps_fits r3 }
  · cases h; exact hp
theorem fit_end (hp : p.fits) (h : rEnd s p a = .ok (q, b)) : q.fits := by
  unfold rEnd at h
  split at h
  · obtain ⟨c, a3, r3, h⟩ := bindR_ok h
    refine fit_endP ?_ h; exact { hp with code := num_255 r3 }
  · exact fit_endP hp h
theorem fit_ack (hp : p.fits) (h : rAck s p a = .ok (q, b)) : q.fits := by
  unfold rAck at h
  obtain ⟨n, a2, r2, h⟩ := bindR_ok h
  refine fit_end ?_ h; exact { hp with id := rId_fits r2 }
theorem fit_item {m : Nat} (hp : p.fits) (h1 : p.subs.length ≤ m) (h2 : p.filters.length ≤ m) (h3 : p.codes.length ≤ m) (hm : m < 1048576) (h : rItem s p a = .ok (q, b)) : q.fits ∧ q.subs.length ≤ m + 1 ∧ q.filters.length ≤ m + 1 ∧ q.codes.length ≤ m + 1 := by
  unfold rItem at h
  split at h
  · obtain ⟨x, a1, r1, h⟩ := bindR_ok h
    cases h
    have hx : x.f.size ≤ 1048576 ∧ i64B x.q ∧ i64B x.h := by
      unfold rSub at r1
      obtain ⟨t, a2, r2, r1⟩ := bindR_ok r1
      obtain ⟨n, a3, r3, r1⟩ := bindR_ok r1
      split at r1
      · cases r1
      split at r1
      · cases r1
      cases r1
      refine ⟨rText_fits r2, ?_, ?_⟩ <;> (unfold sbOf i64B; simp only; omega)
    refine ⟨{ hp with subs := ⟨by simp only [List.length_append, List.length_singleton]; omega, fun y hy => ?_⟩ }, by simp only [List.length_append, List.length_singleton]; omega, by simp only; omega, by simp only; omega⟩
    rcases List.mem_append.1 hy with hy | hy
    · exact hp.subs.2 y hy
    · obtain rfl := List.mem_singleton.1 hy; exact hx
  · split at h
    · obtain ⟨x, a1, r1, h⟩ := bindR_ok h
      cases h
      refine ⟨{ hp with filters := ⟨by simp only [List.length_append, List.length_singleton]; omega, fun y hy => ?_⟩ }, by simp only; omega, by simp only [List.length_append, List.length_singleton]; omega, by simp only; omega⟩
      rcases List.mem_append.1 hy with hy | hy
      · exact hp.filters.2 y hy
      · obtain rfl := List.mem_singleton.1 hy; exact rText_fits r1
    · obtain ⟨x, a1, r1, h⟩ := bindR_ok h
      cases h
      refine ⟨{ hp with codes := ⟨by simp only [List.length_append, List.length_singleton]; omega, fun y hy => ?_⟩ }, by simp only; omega, by simp only; omega, by simp only [List.length_append, List.length_singleton]; omega⟩
      rcases List.mem_append.1 hy with hy | hy
      · exact hp.codes.2 y hy
      · obtain rfl := List.mem_singleton.1 hy; have := num_range r1 rfl; omega
theorem fit_items : ∀ (f m : Nat) (p : Pk) (a : Int), p.fits → p.subs.length ≤ m → p.filters.length ≤ m → p.codes.length ≤ m → m + f < 1048576 → rItems s f p a = .ok (q, b) → q.fits
  | 0, m, p, a, hp, _, _, _, _, h => by
    unfold rItems at h
    split at h
    · cases h
    · cases h; exact hp
  | f + 1, m, p, a, hp, h1, h2, h3, hm, h => by
    unfold rItems at h
    split at h
    · obtain ⟨p', a1, r1, h⟩ := bindR_ok h
      obtain ⟨k0, k1, k2, k3⟩ := fit_item hp h1 h2 h3 (by omega) r1
      exact fit_items f (m + 1) p' a1 k0 k1 k2 k3 (by omega) h
    · cases h; exact hp
theorem fit_lists (hp : p.fits) (h1 : p.subs.length ≤ 0) (h2 : p.filters.length ≤ 0) (h3 : p.codes.length ≤ 0) (h : rLists s p a = .ok (q, b)) : q.fits := by
  unfold rLists at h
  obtain ⟨n, a2, r2, h⟩ := bindR_ok h
  obtain ⟨l, a3, r3, h⟩ := bindR_ok h
  split at h
  · refine fit_items (s := s) 64 0 _ _ ?_ ?_ ?_ ?_ (by decide) h
    · exact { hp with id := rId_fits r2, ps := rProps_fits r3 }
    · exact h1
    · exact h2
    · exact h3
  · cases h
theorem fit_pass (hp : p.fits) (h : rPass s p a = .ok (q, b)) : q.fits := by
  unfold rPass at h
  split at h
  · obtain ⟨d, a1, r1, h⟩ := bindR_ok h
    cases h
    exact { hp with pass := rData_fits r1 }
  · cases h; exact hp
theorem fit_user (hp : p.fits) (h : rUser s p a = .ok (q, b)) : q.fits := by
  unfold rUser at h
  split at h
  · obtain ⟨d, a1, r1, h⟩ := bindR_ok h
    refine fit_pass ?_ h; exact { hp with user := rText_fits r1 }
  · exact fit_pass hp h
theorem fit_will (hp : p.fits) (h : rWill s p a = .ok (q, b)) : q.fits := by
  unfold rWill at h
  split at h
  · obtain ⟨l, a1, r1, h⟩ := bindR_ok h
    obtain ⟨t, a2, r2, h⟩ := bindR_ok h
    obtain ⟨d, a3, r3, h⟩ := bindR_ok h
    refine fit_user ?_ h; exact { hp with wps := rProps_fits r1, wt := rText_fits r2, wp := rData_fits r3 }
  · exact fit_user hp h
theorem fit_conn (hp : p.fits) (h : rConn s p a = .ok (q, b)) : q.fits := by
  unfold rConn at h
  obtain ⟨t, a1, r1, h⟩ := bindR_ok h
  split at h
  · cases h
  obtain ⟨v, a2, r2, h⟩ := bindR_ok h
  split at h
  · cases h
  obtain ⟨f, a3, r3, h⟩ := bindR_ok h
  split at h
  · cases h
  unfold rKeep at h
  obtain ⟨n, a4, r4, h⟩ := bindR_ok h
  obtain ⟨l, a5, r5, h⟩ := bindR_ok h
  obtain ⟨cl, a6, r6, h⟩ := bindR_ok h
  have hc : (cSet p f).fits := { hp with wq := by unfold cSet i64B; simp only; omega }
  refine fit_will ?_ h; exact { hc with keep := rNum_fits r4, ps := rProps_fits r5, client := rText_fits r6 }
theorem fit_kind (hz : s.size ≤ 1048576) (hp : p.fits) (h1 : p.subs.length ≤ 0) (h2 : p.filters.length ≤ 0) (h3 : p.codes.length ≤ 0) (h : rKind s p a = .ok (q, b)) : q.fits := by
  unfold rKind at h
  split at h
  · exact fit_conn hp h
  split at h
  · exact fit_connack hp h
  split at h
  · exact fit_pub hz hp h
  split at h
  · exact fit_ack hp h
  split at h
  · exact fit_end hp h
  split at h
  · exact fit_lists hp h1 h2 h3 h
  cases h
  exact hp
end
theorem get_fits (s : ByteArray) : (pkGet s).1.fits := by
  unfold pkGet
  split
  · exact zPk_fits
  · have hbr := bt_range (s := s) 0
    cases hd : hdO (bt s 0) with
    | none => exact zPk_fits
    | some p =>
      simp only
      split
      · exact zPk_fits
      split
      · exact zPk_fits
      rename_i hL
      split
      · exact zPk_fits
      split
      · exact zPk_fits
      rename_i h2 h3
      cases hb : rBody (s.extract (getV s 1).2.1.toNat s.size) p 0 with
      | error c => exact zPk_fits
      | ok v =>
        obtain ⟨q, b⟩ := v
        obtain ⟨k1, k2, hp⟩ := hdO_some hbr.1 hbr.2 hd
        unfold rBody at hb
        obtain ⟨q', b', r1, hb⟩ := bindR_ok hb
        split at hb
        · cases hb
        cases hb
        have hz : (s.extract (getV s 1).2.1.toNat s.size).size ≤ 1048576 := by rw [ByteArray.size_extract]; omega
        show q.fits
        rcases hp with ⟨hp, _⟩ | ⟨d, q0, r, hp, q1, q2, _⟩
        · rw [hp] at r1
          refine fit_kind hz ?_ ?_ ?_ ?_ r1
          · exact { zPk_fits with kind := (by show i64B p.kind; unfold i64B; omega) }
          all_goals exact Nat.le_refl _
        · rw [hp] at r1
          refine fit_kind hz ?_ ?_ ?_ ?_ r1
          · exact { zPk_fits with kind := (by show i64B 3; unfold i64B; decide), q := (by show i64B q0; unfold i64B; omega) }
          all_goals exact Nat.le_refl _
end Go.Proofs.YtedapgeabpadaaaDoor

/- Two packets under way side by side, the program's and the document's: what holds of them in memory. -/
namespace Go.Proofs.YtedapgeabpadaaaDoor
set_option linter.unusedVariables false
open Go.RowKit Pl

/-- A slice's header, read off its value. -/
def hdOf : Value → Hd
  | .slice A n c => ⟨A, n, c⟩
  | _ => ⟨none, 0, 0⟩
theorem own_hd {w : World} {B : Nat} {e : TypeId} {s n : Nat} {v : Value} {xs : List Value} (h : w.ownsRow B e s v n xs) : v = (hdOf v).v ∧ (hdOf v).n = n ∧ n ≤ (hdOf v).cap ∧ (((hdOf v).A = none ∧ (hdOf v).cap = 0) ∨ ∃ a, (hdOf v).A = some a) := by
  rcases h.2 with ⟨rfl, rfl⟩ | ⟨g, cap, cur, rfl, _, _, hc, _⟩
  · exact ⟨rfl, rfl, Nat.le_refl _, .inl ⟨rfl, rfl⟩⟩
  · exact ⟨rfl, rfl, hc, .inr ⟨_, rfl⟩⟩
theorem own_lower {w : World} {B B' : Nat} {e : TypeId} {s n : Nat} {v : Value} {xs : List Value} (h : w.ownsRow B e s v n xs) (hB : B' ≤ B) : w.ownsRow B' e s v n xs := by
  refine ⟨h.1, ?_⟩
  rcases h.2 with h0 | ⟨g, cap, cur, rfl, hg, hrest⟩
  · exact .inl h0
  · exact .inr ⟨g, cap, cur, rfl, Nat.le_trans hB hg, hrest⟩
/-- Rows of different types lie apart. -/
theorem own_apart {w : World} {B B' : Nat} {e e' : TypeId} {s s' n n' : Nat} {v v' : Value} {xs xs' : List Value} (h : w.ownsRow B e s v n xs) (h' : w.ownsRow B' e' s' v' n' xs') (he : e ≠ e') : ∀ g, v.ownBlock = some g → v'.ownBlock ≠ some g := by
  intro g hg hg'
  rcases h.2 with ⟨rfl, _⟩ | ⟨g1, cap, cur, rfl, _, hh, _⟩
  · cases hg
  · rcases h'.2 with ⟨rfl, _⟩ | ⟨g2, cap2, cur2, rfl, _, hh2, _⟩
    · cases hg'
    · have e1 : g1 = g := by simpa [Value.ownBlock] using hg
      have e2 : g2 = g := by simpa [Value.ownBlock] using hg'
      subst e1 e2
      rw [hh] at hh2
      injection hh2 with hh2
      injection hh2 with _ h3 _
      exact he h3
theorem blk_apart {w : World} {g g' : Nat} {cs cs' : Array Value} {t t' : TypeId} (h : Blk w g cs t) (h' : Blk w g' cs' t') (ht : t ≠ t') : g ≠ g' := by
  rintro rfl
  unfold Blk at h h'
  rw [h] at h'
  injection h' with h'
  injection h' with _ h3 _
  exact ht h3
/-- What one chain turns lies apart from the other. -/
theorem x_side {w : World} {ga gb B B' : Nat} {csA csB : Array Value} {TA TB e1 e2 : TypeId} {s1 s2 n1 n2 : Nat} {v1 v2 : Value} {x1 x2 : List Value} (ha : Blk w ga csA TA) (hb : Blk w gb csB TB) (hAB : TA ≠ TB) (o1 : w.ownsRow B e1 s1 v1 n1 x1) (o2 : w.ownsRow B' e2 s2 v2 n2 x2) (h1 : TB ≠ e1) (h2 : TA ≠ e2)
    (hd : ∀ g, v1.ownBlock = some g → v2.ownBlock ≠ some g) : ∀ g, (g = ga ∨ v1.ownBlock = some g) → g < w.heap.size ∧ g ≠ gb ∧ v2.ownBlock ≠ some g := by
  rintro g (rfl | hg)
  · exact ⟨ha.lt, blk_apart ha hb hAB, own_ne o2 ha h2⟩
  · exact ⟨(o1.lt g hg).2, fun e => own_ne o1 hb h1 (e ▸ hg), hd g hg⟩
/-- A row that neither chain turns. -/
theorem row_kept {w w' : World} {ga gb B B1 B2 : Nat} {csA csB : Array Value} {TA TB e e1 e2 : TypeId} {s s1 s2 n n1 n2 : Nat} {v v1 v2 : Value} {x x1 x2 : List Value} (hm : Mod (fun g => (g = ga ∨ v1.ownBlock = some g) ∨ (g = gb ∨ v2.ownBlock = some g)) w w')
    (ha : Blk w ga csA TA) (hb : Blk w gb csB TB) (o1 : w.ownsRow B1 e1 s1 v1 n1 x1) (o2 : w.ownsRow B2 e2 s2 v2 n2 x2) (h : w.ownsRow B e s v n x) (hA : TA ≠ e) (hB : TB ≠ e) (h1 : e ≠ e1) (h2 : e ≠ e2) : w'.ownsRow B e s v n x := by
  refine own_mod h hm (fun g hg hx => ?_)
  rcases hx with (rfl | hx) | (rfl | hx)
  · exact own_ne h ha hA hg
  · exact own_apart h o1 h1 g hg hx
  · exact own_ne h hb hB hg
  · exact own_apart h o2 h2 g hg hx
/-- .. nor a block. -/
theorem blk_kept {w w' : World} {g ga gb B1 B2 : Nat} {cs : Array Value} {T e1 e2 : TypeId} {s1 s2 n1 n2 : Nat} {v1 v2 : Value} {x1 x2 : List Value} (hm : Mod (fun g => (g = ga ∨ v1.ownBlock = some g) ∨ (g = gb ∨ v2.ownBlock = some g)) w w')
    (h : Blk w g cs T) (hga : g ≠ ga) (hgb : g ≠ gb) (o1 : w.ownsRow B1 e1 s1 v1 n1 x1) (o2 : w.ownsRow B2 e2 s2 v2 n2 x2) (h1 : T ≠ e1) (h2 : T ≠ e2) : Blk w' g cs T := by
  refine h.mod hm (fun hx => ?_)
  rcases hx with (e | hx) | (e | hx)
  · exact hga e
  · exact own_ne o1 h h1 hx
  · exact hgb e
  · exact own_ne o2 h h2 hx
def sflat (L : List Sb) : List Value := L.flatMap fun x => (sbA x).toList
theorem sflat_snoc (L : List Sb) (x : Sb) : sflat (L ++ [x]) = sflat L ++ (sbA x).toList := by simp [sflat]
/-- Both packets. -/
structure Two (B : Nat) (w : World) (ga gb : Nat) (q : Pk) (m1 m2 : Hs) : Prop where
  a : Blk w ga (pkA .u8 q m1) 45
  b : Blk w gb (pkA .i64 q m2) 52
  p1 : w.ownsRow B 123 4 m1.p.v q.ps.length (flat q.ps)
  p2 : w.ownsRow B 122 4 m2.p.v q.ps.length (flat q.ps)
  w1 : w.ownsRow B 123 4 m1.w.v q.wps.length (flat q.wps)
  w2 : w.ownsRow B 122 4 m2.w.v q.wps.length (flat q.wps)
  c1 : w.ownsRow B 30 1 m1.c.v q.codes.length (q.codes.map (Value.int .u8))
  c2 : w.ownsRow B 3 1 m2.c.v q.codes.length (q.codes.map (Value.int .i64))
  s1 : w.ownsRow B 84 5 m1.s.v q.subs.length (sflat q.subs)
  s2 : w.ownsRow B 83 5 m2.s.v q.subs.length (sflat q.subs)
  f1 : w.ownsRow B 9 1 m1.f.v q.filters.length (q.filters.map Value.string)
  f2 : w.ownsRow B 9 1 m2.f.v q.filters.length (q.filters.map Value.string)
  ff : ∀ g, m1.f.v.ownBlock = some g → m2.f.v.ownBlock ≠ some g
theorem new_hd {c : Ch} {H0 : Nat} {v : Value} {w : World} (h : c.New H0 v w) : v = (hdOf v).v := (own_hd h.2.1).1
theorem own_cast {w : World} {B : Nat} {e : TypeId} {s n n' : Nat} {v v' : Value} {xs xs' : List Value} (h : w.ownsRow B e s v n xs) (hv : v = v') (hn : n = n') (hx : xs = xs') : w.ownsRow B e s v' n' xs' := by subst hv hn hx; exact h
theorem two_codes {B : Nat} {w w' : World} {ga gb : Nat} {q : Pk} {m1 m2 : Hs} {c : Int} {v1 v2 : Value} (h : Two B w ga gb q m1 m2)
    (hm : Mod (fun g => (g = ga ∨ m1.c.v.ownBlock = some g) ∨ (g = gb ∨ m2.c.v.ownBlock = some g)) w w')
    (ha : Blk w' ga ((pkA .u8 q m1).setIfInBounds 8 v1) 45) (n1 : w'.ownsRow B 30 1 v1 (q.codes.length + 1) (q.codes.map (Value.int .u8) ++ [Value.int .u8 c]))
    (hb : Blk w' gb ((pkA .i64 q m2).setIfInBounds 8 v2) 52) (n2 : w'.ownsRow B 3 1 v2 (q.codes.length + 1) (q.codes.map (Value.int .i64) ++ [Value.int .i64 c])) :
    Two B w' ga gb { q with codes := q.codes ++ [c] } { m1 with c := hdOf v1 } { m2 with c := hdOf v2 } := by
  have e1 := (own_hd n1).1
  have e2 := (own_hd n2).1
  have k : ∀ {e : TypeId} {s n : Nat} {v : Value} {x : List Value}, w.ownsRow B e s v n x → 45 ≠ e → 52 ≠ e → e ≠ 30 → e ≠ 3 → w'.ownsRow B e s v n x :=
    fun o a1 a2 a3 a4 => row_kept hm h.a h.b h.c1 h.c2 o a1 a2 a3 a4
  refine ⟨?_, ?_, k h.p1 (by decide) (by decide) (by decide) (by decide), k h.p2 (by decide) (by decide) (by decide) (by decide), k h.w1 (by decide) (by decide) (by decide) (by decide), k h.w2 (by decide) (by decide) (by decide) (by decide), ?_, ?_, k h.s1 (by decide) (by decide) (by decide) (by decide), k h.s2 (by decide) (by decide) (by decide) (by decide), k h.f1 (by decide) (by decide) (by decide) (by decide), k h.f2 (by decide) (by decide) (by decide) (by decide), h.ff⟩
  · rw [e1] at ha; exact ha
  · rw [e2] at hb; exact hb
  · exact own_cast n1 e1 (by simp) (by simp)
  · exact own_cast n2 e2 (by simp) (by simp)
theorem two_subs {B : Nat} {w w' : World} {ga gb : Nat} {q : Pk} {m1 m2 : Hs} {c : Sb} {v1 v2 : Value} (h : Two B w ga gb q m1 m2)
    (hm : Mod (fun g => (g = ga ∨ m1.s.v.ownBlock = some g) ∨ (g = gb ∨ m2.s.v.ownBlock = some g)) w w')
    (ha : Blk w' ga ((pkA .u8 q m1).setIfInBounds 24 v1) 45) (n1 : w'.ownsRow B 84 5 v1 (q.subs.length + 1) (sflat q.subs ++ (sbA c).toList))
    (hb : Blk w' gb ((pkA .i64 q m2).setIfInBounds 24 v2) 52) (n2 : w'.ownsRow B 83 5 v2 (q.subs.length + 1) (sflat q.subs ++ (sbA c).toList)) :
    Two B w' ga gb { q with subs := q.subs ++ [c] } { m1 with s := hdOf v1 } { m2 with s := hdOf v2 } := by
  have e1 := (own_hd n1).1
  have e2 := (own_hd n2).1
  have k : ∀ {e : TypeId} {s n : Nat} {v : Value} {x : List Value}, w.ownsRow B e s v n x → 45 ≠ e → 52 ≠ e → e ≠ 84 → e ≠ 83 → w'.ownsRow B e s v n x :=
    fun o a1 a2 a3 a4 => row_kept hm h.a h.b h.s1 h.s2 o a1 a2 a3 a4
  refine ⟨?_, ?_, k h.p1 (by decide) (by decide) (by decide) (by decide), k h.p2 (by decide) (by decide) (by decide) (by decide), k h.w1 (by decide) (by decide) (by decide) (by decide), k h.w2 (by decide) (by decide) (by decide) (by decide), k h.c1 (by decide) (by decide) (by decide) (by decide), k h.c2 (by decide) (by decide) (by decide) (by decide), ?_, ?_, k h.f1 (by decide) (by decide) (by decide) (by decide), k h.f2 (by decide) (by decide) (by decide) (by decide), h.ff⟩
  · rw [e1] at ha; exact ha
  · rw [e2] at hb; exact hb
  · exact own_cast n1 e1 (by simp) (by rw [sflat_snoc])
  · exact own_cast n2 e2 (by simp) (by rw [sflat_snoc])
theorem two_filters {B H0 : Nat} {w w' : World} {ga gb : Nat} {q : Pk} {m1 m2 : Hs} {c : ByteArray} {v1 v2 : Value} (h : Two B w ga gb q m1 m2)
    (hm : Mod (fun g => (g = ga ∨ m1.f.v.ownBlock = some g) ∨ (g = gb ∨ m2.f.v.ownBlock = some g)) w w')
    (ha : Blk w' ga ((pkA .u8 q m1).setIfInBounds 25 v1) 45) (n1 : w'.ownsRow B 9 1 v1 (q.filters.length + 1) (q.filters.map Value.string ++ [Value.string c]))
    (hb : Blk w' gb ((pkA .i64 q m2).setIfInBounds 25 v2) 52) (n2 : w'.ownsRow B 9 1 v2 (q.filters.length + 1) (q.filters.map Value.string ++ [Value.string c])) (hd : ∀ g, v1.ownBlock = some g → v2.ownBlock ≠ some g) :
    Two B w' ga gb { q with filters := q.filters ++ [c] } { m1 with f := hdOf v1 } { m2 with f := hdOf v2 } := by
  have e1 := (own_hd n1).1
  have e2 := (own_hd n2).1
  have k : ∀ {e : TypeId} {s n : Nat} {v : Value} {x : List Value}, w.ownsRow B e s v n x → 45 ≠ e → 52 ≠ e → e ≠ 9 → w'.ownsRow B e s v n x :=
    fun o a1 a2 a3 => row_kept hm h.a h.b h.f1 h.f2 o a1 a2 a3 a3
  refine ⟨?_, ?_, k h.p1 (by decide) (by decide) (by decide), k h.p2 (by decide) (by decide) (by decide), k h.w1 (by decide) (by decide) (by decide), k h.w2 (by decide) (by decide) (by decide), k h.c1 (by decide) (by decide) (by decide), k h.c2 (by decide) (by decide) (by decide), k h.s1 (by decide) (by decide) (by decide), k h.s2 (by decide) (by decide) (by decide), ?_, ?_, ?_⟩
  · rw [e1] at ha; exact ha
  · rw [e2] at hb; exact hb
  · exact own_cast n1 e1 (by simp) (by simp)
  · exact own_cast n2 e2 (by simp) (by simp)
  · show ∀ g, (hdOf v1).v.ownBlock = some g → (hdOf v2).v.ownBlock ≠ some g
    rw [← e1, ← e2]; exact hd
/-! Read as a packet. -/
theorem own_ppr {w : World} {B n : Nat} {e : TypeId} {v : Value} {L : List Pp} (h : w.ownsRow B e 4 v n (flat L)) (hn : n = L.length) : PRow w (hdOf v).A L := by
  subst hn
  intro hp
  rcases h.2 with ⟨rfl, h0⟩ | ⟨g, cap, cur, rfl, _, hh, _⟩
  · omega
  · have hc := h.cells rfl
    refine ⟨g, 0, rfl, (h.lt g rfl).2, fun i p hi => ?_⟩
    have hf := fun j u (hu : (ppA p).toList[j]? = some u) => flat_at hi hu
    have ad : ∀ j, ((⟨g, 0, none⟩ : Addr).add j) = ⟨g, 0 + j, none⟩ := fun j => by unfold Addr.add; split <;> simp_all
    have := fun j u hu => (ad (i * 4 + j)) ▸ hc (i * 4 + j) u (hf j u hu)
    exact ⟨this 0 _ rfl, this 1 _ rfl, this 2 _ rfl, this 3 _ rfl⟩
theorem own_vrow {w : World} {B n : Nat} {e : TypeId} {v : Value} {L : List Value} (h : w.ownsRow B e 1 v n L) : VRow w (hdOf v).A L := by
  intro hp
  have hl := h.1
  rcases h.2 with ⟨rfl, h0⟩ | ⟨g, cap, cur, rfl, _, hh, _⟩
  · subst h0; omega
  · have hc := h.cells rfl
    refine ⟨g, 0, rfl, (h.lt g rfl).2, fun i p hi => ?_⟩
    have ad : ((⟨g, 0, none⟩ : Addr).add i) = ⟨g, 0 + i, none⟩ := by unfold Addr.add; split <;> simp_all
    exact ad ▸ hc i p hi
theorem sflat_cells {L : List Sb} : ∀ {i : Nat} {x : Sb}, L[i]? = some x → ∀ j u, (sbA x).toList[j]? = some u → (sflat L)[i * 5 + j]? = some u := by
  induction L with
  | nil => intro i x h; simp at h
  | cons y r ih =>
    intro i x h j u hu
    have hj : j < 5 := (List.getElem?_eq_some_iff.1 hu).1
    show ((sbA y).toList ++ sflat r)[i * 5 + j]? = some u
    have hy : (sbA y).toList.length = 5 := rfl
    cases i with
    | zero =>
      obtain rfl : y = x := by simpa using h
      rw [Nat.zero_mul, Nat.zero_add, List.getElem?_append_left (by omega)]
      exact hu
    | succ i =>
      rw [List.getElem?_append_right (by omega), hy, show (i + 1) * 5 + j - 5 = i * 5 + j from by omega]
      exact ih (by simpa using h) j u hu
theorem own_srow {w : World} {B n : Nat} {e : TypeId} {v : Value} {L : List Sb} (h : w.ownsRow B e 5 v n (sflat L)) (hn : n = L.length) : SbRow w (hdOf v).A L := by
  subst hn
  intro hp
  rcases h.2 with ⟨rfl, h0⟩ | ⟨g, cap, cur, rfl, _, hh, _⟩
  · omega
  · have hc := h.cells rfl
    refine ⟨g, 0, rfl, (h.lt g rfl).2, fun i p hi => ?_⟩
    have ad : ∀ j, ((⟨g, 0, none⟩ : Addr).add j) = ⟨g, 0 + j, none⟩ := fun j => by unfold Addr.add; split <;> simp_all
    have := fun j u hu => (ad (i * 5 + j)) ▸ hc (i * 5 + j) u (sflat_cells hi j u hu)
    exact ⟨this 0 _ rfl, this 1 _ rfl, this 2 _ rfl, this 3 _ rfl, this 4 _ rfl⟩
theorem hd_v (h : Hd) : hdOf h.v = h := rfl
theorem Two.in1 {B : Nat} {w : World} {ga gb : Nat} {q : Pk} {m1 m2 : Hs} (h : Two B w ga gb q m1 m2) (hf : q.fits) : PkIn .u8 w q m1 := by
  obtain ⟨_, p1, p2, _⟩ := own_hd h.p1
  obtain ⟨_, w1, w2, _⟩ := own_hd h.w1
  obtain ⟨_, c1, c2, _⟩ := own_hd h.c1
  obtain ⟨_, s1, s2, s3⟩ := own_hd h.s1
  obtain ⟨_, f1, f2, f3⟩ := own_hd h.f1
  rw [hd_v] at p1 p2 w1 w2 c1 c2 s1 s2 f1 f2 s3 f3
  exact ⟨hf, p1.symm, by omega, own_ppr h.p1 rfl, w1.symm, by omega, own_ppr h.w1 rfl, c1.symm, by omega, own_vrow h.c1, s1.symm, by omega, own_srow h.s1 rfl, f1.symm, by omega, own_vrow h.f1, s3, f3⟩
theorem Two.in2 {B : Nat} {w : World} {ga gb : Nat} {q : Pk} {m1 m2 : Hs} (h : Two B w ga gb q m1 m2) (hf : q.fits) : PkIn .i64 w q m2 := by
  obtain ⟨_, p1, p2, _⟩ := own_hd h.p2
  obtain ⟨_, w1, w2, _⟩ := own_hd h.w2
  obtain ⟨_, c1, c2, _⟩ := own_hd h.c2
  obtain ⟨_, s1, s2, s3⟩ := own_hd h.s2
  obtain ⟨_, f1, f2, f3⟩ := own_hd h.f2
  rw [hd_v] at p1 p2 w1 w2 c1 c2 s1 s2 f1 f2 s3 f3
  exact ⟨hf, p1.symm, by omega, own_ppr h.p2 rfl, w1.symm, by omega, own_ppr h.w2 rfl, c1.symm, by omega, own_vrow h.c2, s1.symm, by omega, own_srow h.s2 rfl, f1.symm, by omega, own_vrow h.f2, s3, f3⟩
end Go.Proofs.YtedapgeabpadaaaDoor

/- A packet that was read, as it stands in memory, is one that may be put. -/
set_option linter.unusedVariables false
namespace Go.Proofs.YtedapgeabpadaaaDoor
open Go.RowKit Pl

theorem sl_hd {w : World} {B n size : Nat} {e : TypeId} {h : Hd} {xs : List Value} (s : Sl B w e size h.v n xs) : n = h.n ∧ h.n ≤ h.cap ∧ ((h.A = none ∧ h.cap = 0) ∨ ∃ a, h.A = some a) := by
  obtain ⟨ao, cap, hv, h1, h2, h3⟩ := s.form
  unfold Hd.v at hv
  injection hv with e1 e2 e3
  refine ⟨e2.symm, by omega, ?_⟩
  rw [e1, e3]
  cases ao with
  | none => exact .inl ⟨rfl, (h3 rfl).2⟩
  | some a => exact .inr ⟨a, rfl⟩
theorem sl_at {w : World} {B n size : Nat} {e : TypeId} {h : Hd} {xs : List Value} (s : Sl B w e size h.v n xs) (hn : 0 < n) : ∃ g o, h.A = some ⟨g, o, none⟩ ∧ g < w.heap.size ∧ ∀ j u, xs[j]? = some u → w.cell? ⟨g, o + j, none⟩ = some u := by
  obtain ⟨g, o, cap, hv, _, h1, _, _, h2⟩ := s.at hn
  unfold Hd.v at hv
  injection hv with e1 e2 e3
  exact ⟨g, o, e1, h1, h2⟩
theorem sl_prow {w : World} {B : Nat} {e : TypeId} {h : Hd} {L : List Pp} (s : Sl B w e 4 h.v L.length (flat L)) : PRow w h.A L := by
  intro hp
  obtain ⟨g, o, e1, h1, h2⟩ := sl_at s hp
  refine ⟨g, o, e1, h1, fun i p hi => ?_⟩
  have hf := fun j u (hu : (ppA p).toList[j]? = some u) => h2 _ u (flat_at hi hu)
  have hg : ∀ j u, (ppA p).toList[j]? = some u → w.cell? ⟨g, o + i * 4 + j, none⟩ = some u := fun j u hu => by
    rw [Nat.add_assoc]; exact hf j u hu
  exact ⟨hg 0 _ rfl, hg 1 _ rfl, hg 2 _ rfl, hg 3 _ rfl⟩
theorem sl_vrow {w : World} {B n : Nat} {e : TypeId} {h : Hd} {L : List Value} (s : Sl B w e 1 h.v n L) : VRow w h.A L := by
  intro hp
  have := s.1
  obtain ⟨g, o, e1, h1, h2⟩ := sl_at s (by omega)
  exact ⟨g, o, e1, h1, fun i x hi => h2 i x hi⟩
theorem sl_srow {w : World} {B : Nat} {e : TypeId} {h : Hd} {L : List Sb} (s : Sl B w e 5 h.v L.length (sbF L)) : SbRow w h.A L := by
  intro hp
  obtain ⟨g, o, e1, h1, h2⟩ := sl_at s hp
  refine ⟨g, o, e1, h1, fun i p hi => ?_⟩
  have hg : ∀ j u, (sbA p).toList[j]? = some u → w.cell? ⟨g, o + i * 5 + j, none⟩ = some u := fun j u hu => by
    rw [Nat.add_assoc]; exact h2 _ u (sflat_cells hi j u hu)
  exact ⟨hg 0 _ rfl, hg 1 _ rfl, hg 2 _ rfl, hg 3 _ rfl, hg 4 _ rfl⟩
theorem PkO.pkin {B : Nat} {w : World} {p : Pk} {m : Hs} (h : PkO B w p m) (f : p.fits) : PkIn .u8 w p m := by
  have hp := sl_hd h.ps
  have hw := sl_hd h.wps
  have hc := sl_hd h.cs
  have hs := sl_hd h.ss
  have hf := sl_hd h.fs
  exact ⟨f, hp.1, hp.2.1, sl_prow h.ps, hw.1, hw.2.1, sl_prow h.wps, hc.1, hc.2.1, sl_vrow h.cs, hs.1, hs.2.1, sl_srow h.ss, hf.1, hf.2.1, sl_vrow h.fs, hs.2.2, hf.2.2⟩
/-- What Get tells of any bytes may be put. -/
theorem get_pkin {w w' : World} {s : ByteArray} {m : Hs} (h : PkO w.heap.size w' (pkGet s).1 m) : PkIn .u8 w' (pkGet s).1 m := h.pkin (get_fits s)
end Go.Proofs.YtedapgeabpadaaaDoor
