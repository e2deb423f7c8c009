/- OutflowOnce: what is sent first without Dup, and again only with it: plain. -/
import Derived.Test.YtnclobnnnihpfaaFlowP
namespace Go.Proofs.Ytnclobnnnihpfaa
set_option linter.unusedVariables false

def upd (f : ByteArray → Option Int) (p : ByteArray) (v : Int) : ByteArray → Option Int := fun q => if q = p then some v else f q
theorem upd_same (f : ByteArray → Option Int) (p : ByteArray) (v : Int) : upd f p v p = some v := by unfold upd; rw [if_pos rfl]
theorem upd_other {f : ByteArray → Option Int} {p q : ByteArray} {v : Int} (h : q ≠ p) : upd f p v q = f q := by unfold upd; rw [if_neg h]
theorem upd_id {f : ByteArray → Option Int} {p : ByteArray} {v : Int} (h : f p = some v) : upd f p v = f := by
  funext q
  unfold upd
  split
  · rename_i e; rw [e, h]
  · rfl
/-- Is this Publish as it may be? -/
def okPub (sent : ByteArray → Option Int) (rel : ByteArray → Bool) (bg : Bool) (m : OM) (id : Int) (dup : Bool) : Prop :=
  (0 < m.qos → (sent m.payload).isSome = dup ∧ ((sent m.payload).isSome = true → sent m.payload = some id ∧ bg = true) ∧ rel m.payload = false) ∧
  (m.qos = 0 → sent m.payload = none ∧ dup = false ∧ id = 0) ∧ (0 ≤ id ∧ id ≤ 65535) ∧ m.payload.size = 2
/-- All that is sent is as it may be; and what is remembered then. -/
inductive Looks (rel : ByteArray → Bool) (bg : Bool) : (ByteArray → Option Int) → List OP → (ByteArray → Option Int) → Prop where
  | nil (f) : Looks rel bg f [] f
  | rel (f id r f') : Looks rel bg f r f' → Looks rel bg f (.rel id :: r) f'
  | pub (f m id dup r f') : okPub f rel bg m id dup → Looks rel bg (upd f m.payload id) r f' → Looks rel bg f (.pub m id dup :: r) f'
theorem Looks.append {rel : ByteArray → Bool} {bg : Bool} {f g h : ByteArray → Option Int} {a b : List OP} (h1 : Looks rel bg f a g) (h2 : Looks rel bg g b h) : Looks rel bg f (a ++ b) h := by
  induction h1 with
  | nil f => exact h2
  | rel f id r f' _ ih => exact .rel _ _ _ _ (ih h2)
  | pub f m id dup r f' ho _ ih => exact .pub _ _ _ _ _ _ ho (ih h2)
def pay (k : Nat) : ByteArray := ⟨#[UInt8.ofNat (k % 256), UInt8.ofNat (k / 256 % 256)]⟩
theorem pay_inj {a b : Nat} (ha : a < 65536) (hb : b < 65536) (h : pay a = pay b) : a = b := by
  unfold pay at h
  injection h with h
  injection h with h
  injection h with h1 h
  injection h with h2 _
  have e1 := congrArg UInt8.toNat h1
  have e2 := congrArg UInt8.toNat h2
  rw [UInt8.toNat_ofNat', UInt8.toNat_ofNat'] at e1 e2
  omega
def pays (fl : List OF) (wt : List OM) : List ByteArray := fl.map (fun x => x.m.payload) ++ wt.map (fun m => m.payload)
/-- What holds between two calls. -/
structure Once (s : FS) (sent : ByteArray → Option Int) (rel : ByteArray → Bool) (n : Nat) : Prop where
  ok : FOk s
  nd : (pays s.fl s.wt).Nodup
  old : ∀ p ∈ pays s.fl s.wt, ∃ k, k ≤ n ∧ p = pay k
  fs : ∀ x ∈ s.fl, sent x.m.payload = some x.id
  ws : ∀ m ∈ s.wt, sent m.payload = none ∧ rel m.payload = false
  fr : ∀ x ∈ s.fl, rel x.m.payload = true → x.rel = true
  new : ∀ k, n < k → k ≤ 1000 → sent (pay k) = none ∧ rel (pay k) = false
theorem once_new (most : Int) : Once ⟨0, bounded most, false, [], []⟩ (fun _ => none) (fun _ => false) 0 :=
  ⟨FOk.new most, by simp [pays], by simp [pays], by simp, by simp, by simp, fun _ _ _ => ⟨rfl, rfl⟩⟩
/-- The first that waits is sent. -/
theorem once_pop {t most : Int} {on : Bool} {fl : List OF} {m : OM} {r : List OM} {sent : ByteArray → Option Int} {rel : ByteArray → Bool} {n : Nat} (h : Once ⟨t, most, on, fl, m :: r⟩ sent rel n) (hn : n ≤ 1000) :
    (¬ 0 < m.qos → Once ⟨t, most, on, fl, r⟩ (upd sent m.payload 0) rel n) ∧
    (0 < m.qos → ¬ most ≤ fl.length → Once ⟨nextId (oids fl) t, most, on, fl ++ [⟨nextId (oids fl) t, m, false⟩], r⟩ (upd sent m.payload (nextId (oids fl) t)) rel n) := by
  have hnd := h.nd
  unfold pays at hnd
  simp only [List.map_cons] at hnd
  obtain ⟨n1, n2, n3⟩ := List.nodup_append.1 hnd
  obtain ⟨n4, n5⟩ := List.nodup_cons.1 n2
  have hf : ∀ x ∈ fl, x.m.payload ≠ m.payload := fun x hx => n3 _ (List.mem_map.2 ⟨x, hx, rfl⟩) _ (List.mem_cons_self ..)
  have hr : ∀ y ∈ r, y.payload ≠ m.payload := fun y hy e => n4 (e ▸ List.mem_map.2 ⟨y, hy, rfl⟩)
  obtain ⟨k0, hk0, hp0⟩ := h.old m.payload (by unfold pays; simp)
  have hnew : ∀ k, n < k → k ≤ 1000 → pay k ≠ m.payload := fun k h1 h2 e => by
    rw [hp0] at e
    have := pay_inj (by omega) (by omega) e
    omega
  refine ⟨fun hq => ⟨h.ok.pop0 rfl, ?_, ?_, ?_, ?_, ?_, ?_⟩, fun hq hm => ⟨h.ok.pop1 rfl hq hm, ?_, ?_, ?_, ?_, ?_, ?_⟩⟩
  · show (pays fl r).Nodup
    unfold pays
    exact List.nodup_append.2 ⟨n1, n5, fun a ha b hb => n3 a ha b (List.mem_cons_of_mem _ hb)⟩
  · intro p hp
    refine h.old p ?_
    unfold pays at hp ⊢
    rcases List.mem_append.1 hp with c | c
    · exact List.mem_append.2 (.inl c)
    · exact List.mem_append.2 (.inr (List.mem_cons_of_mem _ c))
  · intro x hx; rw [upd_other (hf x hx)]; exact h.fs x hx
  · intro y hy; rw [upd_other (hr y hy)]; exact h.ws y (List.mem_cons_of_mem _ hy)
  · exact h.fr
  · intro k h1 h2; rw [upd_other (hnew k h1 h2)]; exact h.new k h1 h2
  · show (pays (fl ++ [⟨nextId (oids fl) t, m, false⟩]) r).Nodup
    unfold pays
    rw [List.map_append, List.append_assoc]
    exact hnd
  · intro p hp
    refine h.old p ?_
    unfold pays at hp ⊢
    rw [List.map_append, List.append_assoc] at hp
    exact hp
  · intro x hx
    rcases List.mem_append.1 hx with c | c
    · rw [upd_other (hf x c)]; exact h.fs x c
    · obtain rfl := List.mem_singleton.1 c; exact upd_same _ _ _
  · intro y hy; rw [upd_other (hr y hy)]; exact h.ws y (List.mem_cons_of_mem _ hy)
  · intro x hx
    rcases List.mem_append.1 hx with c | c
    · exact h.fr x c
    · obtain rfl := List.mem_singleton.1 c
      intro e
      have := (h.ws m (List.mem_cons_self ..)).2
      rw [this] at e
      cases e
  · intro k h1 h2; rw [upd_other (hnew k h1 h2)]; exact h.new k h1 h2
theorem once_two {s : FS} {sent : ByteArray → Option Int} {rel : ByteArray → Bool} {n : Nat} (h : Once s sent rel n) : (∀ x ∈ s.fl, x.m.payload.size = 2) ∧ ∀ m ∈ s.wt, m.payload.size = 2 := by
  refine ⟨fun x hx => ?_, fun m hm => ?_⟩
  · obtain ⟨k, _, e⟩ := h.old x.m.payload (by unfold pays; exact List.mem_append.2 (.inl (List.mem_map.2 ⟨x, hx, rfl⟩)))
    rw [e]; rfl
  · obtain ⟨k, _, e⟩ := h.old m.payload (by unfold pays; exact List.mem_append.2 (.inr (List.mem_map.2 ⟨m, hm, rfl⟩)))
    rw [e]; rfl
theorem goL_once (most : Int) (on : Bool) (rel : ByteArray → Bool) (bg : Bool) (n : Nat) (hn : n ≤ 1000) : ∀ (wt : List OM) (t : Int) (fl : List OF) (sent : ByteArray → Option Int), Once ⟨t, most, on, fl, wt⟩ sent rel n →
    ∃ sent', Looks rel bg sent (goL most t fl wt).2.2.2 sent' ∧ Once ⟨(goL most t fl wt).1, most, on, (goL most t fl wt).2.1, (goL most t fl wt).2.2.1⟩ sent' rel n := by
  intro wt
  induction wt with
  | nil => intro t fl sent h; exact ⟨sent, .nil _, h⟩
  | cons m r ih =>
    intro t fl sent h
    have hw := h.ws m (List.mem_cons_self ..)
    have hq2 := h.ok.wq m (List.mem_cons_self ..)
    obtain ⟨p0, p1⟩ := once_pop h hn
    unfold goL
    by_cases hq : 0 < m.qos
    · rw [if_pos hq]
      by_cases hm : most ≤ fl.length
      · rw [if_pos hm]; exact ⟨sent, .nil _, h⟩
      · rw [if_neg hm]
        obtain ⟨s', l1, l2⟩ := ih _ _ _ (p1 hq hm)
        refine ⟨s', .pub _ _ _ _ _ _ ⟨fun _ => ⟨by rw [hw.1]; rfl, fun c => (by rw [hw.1] at c; cases c), hw.2⟩, fun c => by omega, by have := nextId_bd (oids fl) t; omega, (once_two h).2 m (List.mem_cons_self ..)⟩ l1, l2⟩
    · rw [if_neg hq]
      obtain ⟨s', l1, l2⟩ := ih _ _ _ (p0 hq)
      exact ⟨s', .pub _ _ _ _ _ _ ⟨fun c => absurd c hq, fun _ => ⟨hw.1, rfl, rfl⟩, ⟨by decide, by decide⟩, (once_two h).2 m (List.mem_cons_self ..)⟩ l1, l2⟩
theorem goOn_once {s : FS} {sent : ByteArray → Option Int} {rel : ByteArray → Bool} {n : Nat} (bg : Bool) (h : Once s sent rel n) (hn : n ≤ 1000) : ∃ sent', Looks rel bg sent (goOn s).2 sent' ∧ Once (goOn s).1 sent' rel n := by
  unfold goOn
  split
  · obtain ⟨t, most, on, fl, wt⟩ := s
    exact goL_once most on rel bg n hn wt t fl sent h
  · exact ⟨sent, .nil _, h⟩
theorem once_add {s : FS} {sent : ByteArray → Option Int} {rel : ByteArray → Bool} {n : Nat} {m : OM} (h : Once s sent rel n) (hn : n + 1 ≤ 1000) (hp : m.payload = pay (n + 1)) (h0 : 0 ≤ m.qos) (h2 : m.qos ≤ 2) (hl : s.wt.length < 256) : Once { s with wt := s.wt ++ [m] } sent rel (n + 1) := by
  have hne : ∀ p ∈ pays s.fl s.wt, p ≠ m.payload := fun p hp2 e => by
    obtain ⟨k, hk, rfl⟩ := h.old p hp2
    rw [hp] at e
    have := pay_inj (by omega) (by omega) e
    omega
  have hps : pays s.fl (s.wt ++ [m]) = pays s.fl s.wt ++ [m.payload] := by unfold pays; rw [List.map_append, ← List.append_assoc]; rfl
  have hnw := h.new (n + 1) (by omega) hn
  rw [← hp] at hnw
  refine ⟨h.ok.add h0 h2 hl, ?_, ?_, h.fs, ?_, h.fr, fun k h1 h2 => h.new k (by omega) h2⟩
  · show (pays s.fl (s.wt ++ [m])).Nodup
    rw [hps]
    exact List.nodup_append.2 ⟨h.nd, by simp, fun a ha b hb => by obtain rfl := List.mem_singleton.1 hb; exact hne a ha⟩
  · intro p hp2
    have hp2 : p ∈ pays s.fl (s.wt ++ [m]) := hp2
    rw [hps] at hp2
    rcases List.mem_append.1 hp2 with c | c
    · obtain ⟨k, hk, e⟩ := h.old p c; exact ⟨k, by omega, e⟩
    · exact ⟨n + 1, Nat.le_refl _, by rw [List.mem_singleton.1 c]; exact hp⟩
  · intro y hy
    rcases List.mem_append.1 hy with c | c
    · exact h.ws y c
    · obtain rfl := List.mem_singleton.1 c; exact hnw
theorem Once.step {s : FS} {sent : ByteArray → Option Int} {rel : ByteArray → Bool} {n : Nat} (h : Once s sent rel n) : Once s sent rel (n + 1) :=
  ⟨h.ok, h.nd, fun p hp => by obtain ⟨k, hk, e⟩ := h.old p hp; exact ⟨k, by omega, e⟩, h.fs, h.ws, h.fr, fun k h1 h2 => h.new k (by omega) h2⟩
theorem send_once {s : FS} {sent : ByteArray → Option Int} {rel : ByteArray → Bool} {n : Nat} {m : OM} (h : Once s sent rel n) (hn : n + 1 ≤ 1000) (hp : m.payload = pay (n + 1)) :
    ∃ sent', Looks rel false sent (fsend s m).2.1 sent' ∧ Once (fsend s m).1 sent' rel (n + 1) := by
  unfold fsend
  by_cases h1 : m.qos < 0 ∨ 2 < m.qos
  · rw [if_pos h1]; exact ⟨sent, .nil _, h.step⟩
  rw [if_neg h1]
  by_cases h2 : m.qos = 0 ∧ s.on = false
  · rw [if_pos h2]; exact ⟨sent, .nil _, h.step⟩
  rw [if_neg h2]
  by_cases h3 : 256 ≤ s.wt.length
  · rw [if_pos h3]; exact ⟨sent, .nil _, h.step⟩
  rw [if_neg h3]
  exact goOn_once false (once_add h hn hp (by omega) (by omega) (by omega)) hn
theorem once_over {s : FS} {sent : ByteArray → Option Int} {rel : ByteArray → Bool} {n : Nat} (h : Once s sent rel n) (i : Nat) : Once (fover s i) sent rel n := by
  have hsub : (pays (s.fl.eraseIdx i) s.wt).Sublist (pays s.fl s.wt) := by
    unfold pays
    exact ((List.eraseIdx_sublist s.fl i).map _).append (List.Sublist.refl _)
  exact ⟨h.ok.over i, h.nd.sublist hsub, fun p hp => h.old p (hsub.subset hp), fun x hx => h.fs x (mem_eraseIdx hx), h.ws, fun x hx => h.fr x (mem_eraseIdx hx), h.new⟩
theorem pays_modify (l : List OF) (i : Nat) (wt : List OM) : pays (l.modify i (fun x => { x with rel := true })) wt = pays l wt := by
  unfold pays
  congr 1
  apply List.ext_getElem?
  intro j
  rw [List.getElem?_map, List.getElem?_map, List.getElem?_modify]
  cases l[j]? with
  | none => rfl
  | some y => by_cases e : i = j <;> simp [e]
theorem once_rel {s : FS} {sent : ByteArray → Option Int} {rel : ByteArray → Bool} {n i : Nat} {x : OF} (h : Once s sent rel n) (hx : s.fl[i]? = some x) (hq : x.m.qos = 2) : Once (frel s i) sent rel n := by
  have hp : pays (frel s i).fl (frel s i).wt = pays s.fl s.wt := pays_modify _ _ _
  refine ⟨h.ok.rel hx hq, by rw [hp]; exact h.nd, by rw [hp]; exact h.old, ?_, h.ws, ?_, h.new⟩
  · intro y hy
    rcases mem_modify hy with c | ⟨z, hz, rfl⟩
    · exact h.fs y c
    · exact h.fs z (List.mem_of_getElem? hz)
  · intro y hy hr
    rcases mem_modify hy with c | ⟨z, hz, rfl⟩
    · exact h.fr y c hr
    · rfl
theorem answer_once {s : FS} {sent : ByteArray → Option Int} {rel : ByteArray → Bool} {n : Nat} (k id code : Int) (h : Once s sent rel n) (hn : n ≤ 1000) :
    ∃ sent', Looks rel false sent (fanswer s k id code).2.1 sent' ∧ Once (fanswer s k id code).1 sent' rel n := by
  unfold fanswer
  by_cases h1 : s.on = false ∨ (k ≠ 4 ∧ k ≠ 5 ∧ k ≠ 7)
  · rw [if_pos h1]; exact ⟨sent, .nil _, h⟩
  rw [if_neg h1]
  cases hi : s.fl.findIdx? (fun x => x.id == id) with
  | none => exact ⟨sent, .nil _, h⟩
  | some i =>
    simp only
    cases hx : s.fl[i]? with
    | none => exact ⟨sent, .nil _, h⟩
    | some x =>
      simp only
      by_cases k4 : k = 4
      · rw [if_pos k4]
        split
        · exact ⟨sent, .nil _, h⟩
        · exact goOn_once false (once_over h i) hn
      rw [if_neg k4]
      by_cases k5 : k = 5
      · rw [if_pos k5]
        by_cases c1 : x.m.qos ≠ 2 ∨ (128 ≤ code ∧ x.rel = true)
        · rw [if_pos c1]; exact ⟨sent, .nil _, h⟩
        rw [if_neg c1]
        split
        · exact goOn_once false (once_over h i) hn
        · obtain ⟨s', l1, l2⟩ := goOn_once false (once_rel h hx (by omega)) hn
          exact ⟨s', .rel _ _ _ _ l1, l2⟩
      rw [if_neg k5]
      split
      · exact ⟨sent, .nil _, h⟩
      · exact goOn_once false (once_over h i) hn
theorem again_once (rel : ByteArray → Bool) (sent : ByteArray → Option Int) : ∀ fl : List OF, (∀ x ∈ fl, sent x.m.payload = some x.id) → (∀ x ∈ fl, rel x.m.payload = true → x.rel = true) → (∀ x ∈ fl, x.m.qos = 1 ∨ x.m.qos = 2) → (∀ x ∈ fl, 1 ≤ x.id ∧ x.id ≤ 65535) → (∀ x ∈ fl, x.m.payload.size = 2) → Looks rel true sent (fl.map again) sent := by
  intro fl
  induction fl with
  | nil => intro _ _ _ _ _; exact .nil _
  | cons x r ih =>
    intro h1 h2 h3 h4 h5
    have hx := h1 x (List.mem_cons_self ..)
    have hr := ih (fun y hy => h1 y (List.mem_cons_of_mem _ hy)) (fun y hy => h2 y (List.mem_cons_of_mem _ hy)) (fun y hy => h3 y (List.mem_cons_of_mem _ hy)) (fun y hy => h4 y (List.mem_cons_of_mem _ hy)) (fun y hy => h5 y (List.mem_cons_of_mem _ hy))
    rw [List.map_cons]
    unfold again
    by_cases c : x.rel = true
    · rw [if_pos c]; exact .rel _ _ _ _ hr
    · rw [if_neg c]
      have hf : rel x.m.payload = false := by
        cases e : rel x.m.payload with
        | false => rfl
        | true => exact absurd (h2 x (List.mem_cons_self ..) e) c
      have hq := h3 x (List.mem_cons_self ..)
      refine .pub _ _ _ _ _ _ ⟨fun _ => ⟨by rw [hx]; rfl, fun _ => ⟨hx, rfl⟩, hf⟩, fun c => by omega, by have := h4 x (List.mem_cons_self ..); omega, h5 x (List.mem_cons_self ..)⟩ ?_
      rw [upd_id hx]
      exact hr
theorem begin_once {s : FS} {sent : ByteArray → Option Int} {rel : ByteArray → Bool} {n : Nat} (most : Int) (h : Once s sent rel n) (hn : n ≤ 1000) :
    ∃ sent', Looks rel true sent (fbegin s most).2 sent' ∧ Once (fbegin s most).1 sent' rel n := by
  unfold fbegin
  obtain ⟨s', l1, l2⟩ := goOn_once true (s := { s with on := true, most := bounded most }) ⟨h.ok.begin most, h.nd, h.old, h.fs, h.ws, h.fr, h.new⟩ hn
  exact ⟨s', (again_once rel sent s.fl h.fs h.fr h.ok.fq h.ok.ids (once_two h).1).append l1, l2⟩
theorem end_once {s : FS} {sent : ByteArray → Option Int} {rel : ByteArray → Bool} {n : Nat} (h : Once s sent rel n) : Once { s with on := false } sent rel n :=
  ⟨h.ok.fend, h.nd, h.old, h.fs, h.ws, h.fr, h.new⟩
/-- The flights are looked at: those that were released are remembered. -/
def relF (rel : ByteArray → Bool) : List OF → ByteArray → Bool
  | [] => rel
  | x :: r => relF (fun p => if p = x.m.payload then rel p || x.rel else rel p) r
theorem relF_eq : ∀ (fl : List OF) (rel : ByteArray → Bool) (p : ByteArray), relF rel fl p = (rel p || fl.any (fun x => decide (x.m.payload = p) && x.rel)) := by
  intro fl
  induction fl with
  | nil => intro rel p; simp [relF]
  | cons x r ih =>
    intro rel p
    show relF _ r p = _
    rw [ih]
    simp only [List.any_cons]
    by_cases e : p = x.m.payload
    · subst e; simp [Bool.or_assoc]
    · have e2 : ¬ x.m.payload = p := fun c => e c.symm
      simp [e, e2]
theorem once_look {s : FS} {sent : ByteArray → Option Int} {rel : ByteArray → Bool} {n : Nat} (h : Once s sent rel n) (hn : n ≤ 1000) : Once s sent (relF rel s.fl) n := by
  have hnd := h.nd
  unfold pays at hnd
  obtain ⟨n1, n2, n3⟩ := List.nodup_append.1 hnd
  have two : ∀ x ∈ s.fl, ∀ y ∈ s.fl, x.m.payload = y.m.payload → x = y := fun x hx y hy e => by
    obtain ⟨i, hi⟩ := List.mem_iff_getElem?.1 hx
    obtain ⟨j, hj⟩ := List.mem_iff_getElem?.1 hy
    have hil := (List.getElem?_eq_some_iff.1 hi).1
    have hjl := (List.getElem?_eq_some_iff.1 hj).1
    have : i = j := by
      refine (List.getElem_inj (h₀ := by simpa using hil) (h₁ := by simpa using hjl) n1).1 ?_
      rw [List.getElem_map, List.getElem_map, (List.getElem?_eq_some_iff.1 hi).2, (List.getElem?_eq_some_iff.1 hj).2]
      exact e
    subst this
    rw [hi] at hj
    injection hj
  refine ⟨h.ok, h.nd, h.old, h.fs, fun m hm => ⟨(h.ws m hm).1, ?_⟩, fun x hx hr => ?_, fun k h1 h2 => ⟨(h.new k h1 h2).1, ?_⟩⟩
  · rw [relF_eq, (h.ws m hm).2, Bool.false_or, List.any_eq_false]
    intro x hx
    have := n3 _ (List.mem_map.2 ⟨x, hx, rfl⟩) _ (List.mem_map.2 ⟨m, hm, rfl⟩)
    simp [this]
  · rw [relF_eq, Bool.or_eq_true] at hr
    rcases hr with hr | hr
    · exact h.fr x hx hr
    · obtain ⟨y, hy, e⟩ := List.any_eq_true.1 hr
      simp only [Bool.and_eq_true, decide_eq_true_eq] at e
      have := two y hy x hx e.1
      rw [← this]
      exact e.2
  · rw [relF_eq, (h.new k h1 h2).2, Bool.false_or, List.any_eq_false]
    intro x hx
    have : x.m.payload ≠ pay k := fun e => by
      obtain ⟨j, hj, e2⟩ := h.old x.m.payload (by unfold pays; exact List.mem_append.2 (.inl (List.mem_map.2 ⟨x, hx, rfl⟩)))
      rw [e] at e2
      have := pay_inj (by omega) (by omega) e2
      omega
    simp [this]
theorem relF_snoc (x : OF) : ∀ (l : List OF) (rel : ByteArray → Bool), relF rel (l ++ [x]) = fun p => if p = x.m.payload then relF rel l p || x.rel else relF rel l p := by
  intro l
  induction l with
  | nil => intro rel; rfl
  | cons y r ih => intro rel; show relF _ (r ++ [x]) = _; rw [ih]; rfl
theorem goL_len (most : Int) : ∀ (wt : List OM) (t : Int) (fl : List OF), (goL most t fl wt).2.2.2.length ≤ wt.length := by
  intro wt
  induction wt with
  | nil => intro t fl; exact Nat.le_refl _
  | cons m r ih =>
    intro t fl
    unfold goL
    split
    · split
      · exact Nat.zero_le _
      · simp only [List.length_cons]; have := ih (nextId (oids fl) t) (fl ++ [⟨nextId (oids fl) t, m, false⟩]); omega
    · simp only [List.length_cons]; have := ih t fl; omega
theorem goOn_len {s : FS} (h : s.wt.length ≤ 256) : (goOn s).2.length ≤ 256 := by
  unfold goOn
  split
  · exact Nat.le_trans (goL_len _ _ _ _) h
  · exact Nat.zero_le _
end Go.Proofs.Ytnclobnnnihpfaa
