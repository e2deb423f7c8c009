/- What is sent to one receiver: plain. -/
import Derived.Test.YtnclobnnnihpfaaIdP
namespace Go.Proofs.Ytnclobnnnihpfaa
set_option linter.unusedVariables false

structure OM where
  topic : ByteArray
  payload : ByteArray
  qos : Int
  retain : Bool
  tag : ByteArray
structure OF where
  id : Int
  m : OM
  rel : Bool
structure FS where
  taken : Int
  most : Int
  on : Bool
  fl : List OF
  wt : List OM
inductive OP where
  | pub (m : OM) (id : Int) (dup : Bool)
  | rel (id : Int)
def oids (l : List OF) : List Int := l.map (·.id)
def bounded (n : Int) : Int := max 1 (min n 64)
theorem bounded_bd (n : Int) : 1 ≤ bounded n ∧ bounded n ≤ 64 := by unfold bounded; omega
/-- What waits is sent, as far as it may be. -/
def goL (most : Int) : Int → List OF → List OM → Int × List OF × List OM × List OP
  | t, fl, [] => (t, fl, [], [])
  | t, fl, m :: r =>
    if 0 < m.qos then
      if most ≤ fl.length then (t, fl, m :: r, [])
      else
        let q := goL most (nextId (oids fl) t) (fl ++ [⟨nextId (oids fl) t, m, false⟩]) r
        (q.1, q.2.1, q.2.2.1, .pub m (nextId (oids fl) t) false :: q.2.2.2)
    else
      let q := goL most t fl r
      (q.1, q.2.1, q.2.2.1, .pub m 0 false :: q.2.2.2)
def goOn (s : FS) : FS × List OP :=
  if s.on then ({ s with taken := (goL s.most s.taken s.fl s.wt).1, fl := (goL s.most s.taken s.fl s.wt).2.1, wt := (goL s.most s.taken s.fl s.wt).2.2.1 }, (goL s.most s.taken s.fl s.wt).2.2.2)
  else (s, [])
/-- One round: a message of QoS 0. -/
def pop0 (s : FS) (r : List OM) : FS := { s with wt := r }
/-- .. of another one. -/
def pop1 (s : FS) (m : OM) (r : List OM) : FS := { s with taken := nextId (oids s.fl) s.taken, fl := s.fl ++ [⟨nextId (oids s.fl) s.taken, m, false⟩], wt := r }
theorem goOn_off {s : FS} (h : s.on = false) : goOn s = (s, []) := by unfold goOn; rw [h]; rfl
theorem goOn_empty {s : FS} (h : s.wt = []) : goOn s = (s, []) := by
  unfold goOn
  split
  · rw [h]; cases s; simp only at h; subst h; rfl
  · rfl
theorem goOn_full {s : FS} {m : OM} {r : List OM} (h : s.wt = m :: r) (hq : 0 < m.qos) (hf : s.most ≤ s.fl.length) : goOn s = (s, []) := by
  unfold goOn
  split
  · rw [h]
    unfold goL
    rw [if_pos hq, if_pos hf]
    cases s; simp only at h; subst h; rfl
  · rfl
theorem goOn_0 {s : FS} {m : OM} {r : List OM} (ho : s.on = true) (h : s.wt = m :: r) (hq : ¬ 0 < m.qos) : goOn s = ((goOn (pop0 s r)).1, .pub m 0 false :: (goOn (pop0 s r)).2) := by
  obtain ⟨t, mo, on, fl, wt⟩ := s
  simp only at ho h
  subst ho h
  simp only [goOn, pop0, goL, if_neg hq, if_true]
theorem goOn_1 {s : FS} {m : OM} {r : List OM} (ho : s.on = true) (h : s.wt = m :: r) (hq : 0 < m.qos) (hf : ¬ s.most ≤ s.fl.length) : goOn s = ((goOn (pop1 s m r)).1, .pub m (nextId (oids s.fl) s.taken) false :: (goOn (pop1 s m r)).2) := by
  obtain ⟨t, mo, on, fl, wt⟩ := s
  simp only at ho h hf
  subst ho h
  simp only [goOn, pop1, goL, if_pos hq, if_neg hf, if_true]
/-- What always holds of a flow. -/
structure FOk (s : FS) : Prop where
  t0 : 0 ≤ s.taken
  t1 : s.taken ≤ 65535
  m0 : 1 ≤ s.most
  m1 : s.most ≤ 64
  fl : s.fl.length ≤ 64
  wt : s.wt.length ≤ 256
  nd : (oids s.fl).Nodup
  ids : ∀ x ∈ s.fl, 1 ≤ x.id ∧ x.id ≤ 65535
  fq : ∀ x ∈ s.fl, x.m.qos = 1 ∨ x.m.qos = 2
  rq : ∀ x ∈ s.fl, x.rel = true → x.m.qos = 2
  wq : ∀ m ∈ s.wt, 0 ≤ m.qos ∧ m.qos ≤ 2
theorem oids_length (l : List OF) : (oids l).length = l.length := by simp [oids]
theorem FOk.pop0 {s : FS} {m : OM} {r : List OM} (h : FOk s) (hw : s.wt = m :: r) : FOk (pop0 s r) :=
  ⟨h.t0, h.t1, h.m0, h.m1, h.fl, by have := h.wt; rw [hw] at this; show r.length ≤ 256; simp only [List.length_cons] at this; omega, h.nd, h.ids, h.fq, h.rq, fun x hx => h.wq x (by rw [hw]; exact List.mem_cons_of_mem _ hx)⟩
theorem FOk.pop1 {s : FS} {m : OM} {r : List OM} (h : FOk s) (hw : s.wt = m :: r) (hq : 0 < m.qos) (hf : ¬ s.most ≤ s.fl.length) : FOk (pop1 s m r) := by
  have hb := nextId_bd (oids s.fl) s.taken
  have hn := nextId_not (l := oids s.fl) (t := s.taken) (by rw [oids_length]; exact h.fl)
  have hm := h.wq m (by rw [hw]; exact List.mem_cons_self ..)
  have hm1 := h.m1
  refine ⟨by show 0 ≤ nextId _ _; omega, hb.2, h.m0, h.m1, ?_, ?_, ?_, ?_, ?_, ?_, ?_⟩
  · simp only [Go.Proofs.Ytnclobnnnihpfaa.pop1, List.length_append, List.length_cons, List.length_nil]; omega
  · have := h.wt; rw [hw] at this; simp only [Go.Proofs.Ytnclobnnnihpfaa.pop1, List.length_cons] at this ⊢; omega
  · show (oids (s.fl ++ [_])).Nodup
    unfold oids at hn ⊢
    rw [List.map_append, List.nodup_append]
    refine ⟨h.nd, by simp, ?_⟩
    intro a ha b hb' e
    simp only [List.map_cons, List.map_nil, List.mem_singleton] at hb'
    subst hb'
    subst e
    exact hn ha
  · intro x hx
    rcases List.mem_append.1 hx with hx | hx
    · exact h.ids x hx
    · obtain rfl := List.mem_singleton.1 hx; exact hb
  · intro x hx
    rcases List.mem_append.1 hx with hx | hx
    · exact h.fq x hx
    · obtain rfl := List.mem_singleton.1 hx; show m.qos = 1 ∨ m.qos = 2; omega
  · intro x hx
    rcases List.mem_append.1 hx with hx | hx
    · exact h.rq x hx
    · obtain rfl := List.mem_singleton.1 hx; intro c; cases c
  · intro x hx
    exact h.wq x (by rw [hw]; exact List.mem_cons_of_mem _ hx)
theorem FOk.new (n : Int) : FOk ⟨0, bounded n, false, [], []⟩ :=
  ⟨by show (0 : Int) ≤ 0; decide, by show (0 : Int) ≤ 65535; decide, (bounded_bd n).1, (bounded_bd n).2, by simp, by simp, by simp [oids], by simp, by simp, by simp, by simp⟩
/-- A message is to be sent. -/
def fsend (s : FS) (m : OM) : FS × List OP × Int :=
  if m.qos < 0 ∨ 2 < m.qos then (s, [], 155)
  else if m.qos = 0 ∧ s.on = false then (s, [], 0)
  else if 256 ≤ s.wt.length then (s, [], 151)
  else ((goOn { s with wt := s.wt ++ [m] }).1, (goOn { s with wt := s.wt ++ [m] }).2, 0)
theorem FOk.add {s : FS} {m : OM} (h : FOk s) (h0 : 0 ≤ m.qos) (h2 : m.qos ≤ 2) (hl : s.wt.length < 256) : FOk { s with wt := s.wt ++ [m] } :=
  ⟨h.t0, h.t1, h.m0, h.m1, h.fl, by simp only [List.length_append, List.length_cons, List.length_nil]; omega, h.nd, h.ids, h.fq, h.rq, fun x hx => by
    rcases List.mem_append.1 hx with hx | hx
    · exact h.wq x hx
    · obtain rfl := List.mem_singleton.1 hx; exact ⟨h0, h2⟩⟩
/-- The i-th flight is none any more. -/
def fover (s : FS) (i : Nat) : FS := { s with fl := s.fl.eraseIdx i }
def frel (s : FS) (i : Nat) : FS := { s with fl := s.fl.modify i (fun x => { x with rel := true }) }
/-- The receiver answers. -/
def fanswer (s : FS) (k id code : Int) : FS × List OP × Int :=
  if s.on = false ∨ (k ≠ 4 ∧ k ≠ 5 ∧ k ≠ 7) then (s, [], 130)
  else match s.fl.findIdx? (fun x => x.id == id) with
  | none => (s, [], 146)
  | some i => match s.fl[i]? with
    | none => (s, [], 146)
    | some x =>
      if k = 4 then if x.m.qos ≠ 1 then (s, [], 130) else ((goOn (fover s i)).1, (goOn (fover s i)).2, 0)
      else if k = 5 then
        if x.m.qos ≠ 2 ∨ (128 ≤ code ∧ x.rel = true) then (s, [], 130)
        else if 128 ≤ code then ((goOn (fover s i)).1, (goOn (fover s i)).2, 0)
        else ((goOn (frel s i)).1, .rel id :: (goOn (frel s i)).2, 0)
      else if x.rel = false then (s, [], 130) else ((goOn (fover s i)).1, (goOn (fover s i)).2, 0)
def again (x : OF) : OP := if x.rel = true then .rel x.id else .pub x.m x.id true
def fbegin (s : FS) (n : Int) : FS × List OP :=
  ((goOn { s with on := true, most := bounded n }).1, s.fl.map again ++ (goOn { s with on := true, most := bounded n }).2)
theorem FOk.begin {s : FS} (h : FOk s) (n : Int) : FOk { s with on := true, most := bounded n } :=
  ⟨h.t0, h.t1, (bounded_bd n).1, (bounded_bd n).2, h.fl, h.wt, h.nd, h.ids, h.fq, h.rq, h.wq⟩
theorem FOk.fend {s : FS} (h : FOk s) : FOk { s with on := false } := ⟨h.t0, h.t1, h.m0, h.m1, h.fl, h.wt, h.nd, h.ids, h.fq, h.rq, h.wq⟩
theorem mem_eraseIdx {α : Type} {l : List α} {i : Nat} {x : α} (h : x ∈ l.eraseIdx i) : x ∈ l := List.mem_of_mem_eraseIdx h
theorem FOk.over {s : FS} (h : FOk s) (i : Nat) : FOk (fover s i) :=
  ⟨h.t0, h.t1, h.m0, h.m1, Nat.le_trans (List.length_eraseIdx_le ..) h.fl, h.wt, by
    show ((s.fl.eraseIdx i).map (·.id)).Nodup
    exact h.nd.sublist ((List.eraseIdx_sublist s.fl i).map _), fun x hx => h.ids x (mem_eraseIdx hx), fun x hx => h.fq x (mem_eraseIdx hx), fun x hx => h.rq x (mem_eraseIdx hx), h.wq⟩
theorem mem_modify {α : Type} {l : List α} {i : Nat} {f : α → α} {x : α} (h : x ∈ l.modify i f) : x ∈ l ∨ ∃ y, l[i]? = some y ∧ x = f y := by
  obtain ⟨j, hj⟩ := List.getElem?_of_mem h
  rw [List.getElem?_modify] at hj
  by_cases e : i = j
  · subst e
    simp only [if_true] at hj
    cases hy : l[i]? with
    | none => rw [hy] at hj; cases hj
    | some y => rw [hy] at hj; cases hj; exact .inr ⟨y, rfl, rfl⟩
  · simp only [e, if_false] at hj
    cases hy : l[j]? with
    | none => rw [hy] at hj; cases hj
    | some y => rw [hy] at hj; cases hj; exact .inl (List.mem_of_getElem? hy)
theorem oids_modify (l : List OF) (i : Nat) : oids (l.modify i (fun x => { x with rel := true })) = oids l := by
  unfold oids
  apply List.ext_getElem?
  intro j
  rw [List.getElem?_map, List.getElem?_map, List.getElem?_modify]
  cases l[j]? with
  | none => rfl
  | some y => by_cases e : i = j <;> simp [e]
theorem FOk.rel {s : FS} {i : Nat} {x : OF} (h : FOk s) (hx : s.fl[i]? = some x) (hq : x.m.qos = 2) : FOk (frel s i) := by
  refine ⟨h.t0, h.t1, h.m0, h.m1, by show (s.fl.modify i _).length ≤ 64; rw [List.length_modify]; exact h.fl, h.wt, by show (oids (s.fl.modify i _)).Nodup; rw [oids_modify]; exact h.nd, ?_, ?_, ?_, h.wq⟩
  · intro y hy
    rcases mem_modify hy with c | ⟨z, hz, rfl⟩
    · exact h.ids y c
    · exact h.ids z (List.mem_of_getElem? hz)
  · intro y hy
    rcases mem_modify hy with c | ⟨z, hz, rfl⟩
    · exact h.fq y c
    · exact h.fq z (List.mem_of_getElem? hz)
  · intro y hy hr
    rcases mem_modify hy with c | ⟨z, hz, rfl⟩
    · exact h.rq y c hr
    · rw [hx] at hz; cases hz; exact hq
end Go.Proofs.Ytnclobnnnihpfaa
