/- A row of rules in two parts: plain; an array of two numbers as an argument. -/
import Derived.Test.YtdjiioidkgppjaaDoorCompose
import Derived.Test.YtdjiioidkgppjaaDoorRulesArg
namespace Go.Proofs.YtdjiioidkgppjaaDoor
open Go.ChangeShapes Go.WideShapes Go.RowKit Go.Deep Pl
set_option linter.unusedVariables false

theorem open_two_arg {H : Type} {enc : TypeId × Value → H} {w : World} {v : Value} {d : DataW H} {p : List MemPlace} {r : Reach} {b0 : Nat} (hv : Value.okWide Tryd.prog w r b0 47 v) (h : DataW.Trod enc Tryd.prog w 0 (fun _ => true) true 47 v d p) :
    ∃ z : Int × Int, (v = .agg #[.int .i64 z.1, .int .i64 z.2] ∧ -9223372036854775808 ≤ z.1 ∧ z.1 ≤ 9223372036854775807 ∧ -9223372036854775808 ≤ z.2 ∧ z.2 ≤ 9223372036854775807) ∧ True := by
  obtain ⟨fuel, hf⟩ := h
  have hv2 := hv
  simp only [Value.okWide, Tryd.underlying47] at hv2
  obtain ⟨cs, rfl, hsz, _⟩ := hv2
  have k3 : Tryd.prog.cellsOf 3 = 1 := by kernel_rfl
  have k2 : Tryd.prog.cellsOf 47 = 2 := by kernel_rfl
  rw [k2] at hsz
  obtain ⟨xs, m, _, _, hl, hxl, hg⟩ := DataW.trod_array Tryd.underlying47 hf
  obtain ⟨l⟩ := cs
  match l, hsz with
  | [v0, v1], _ =>
    match xs, hxl with
    | [x0, x1], _ =>
      have h0 : DataW.trod enc Tryd.prog w 0 (fun _ => true) true m 3 [v0] = some x0 := by simpa [k3, Value.cells] using hg 0 (by omega)
      have h1 : DataW.trod enc Tryd.prog w 0 (fun _ => true) true m 3 [v1] = some x1 := by simpa [k3, Value.cells] using hg 1 (by omega)
      obtain ⟨i0, e0, _, z0⟩ := DataW.trod_int Tryd.underlying3 h0
      obtain ⟨i1, e1, _, z1⟩ := DataW.trod_int Tryd.underlying3 h1
      simp only [List.cons.injEq, and_true] at e0 e1
      subst e0 e1
      have hb0 := i64_bd z0
      have hb1 := i64_bd z1
      exact ⟨(i0, i1), ⟨rfl, hb0.1, hb0.2, hb1.1, hb1.2⟩, trivial⟩
theorem cmp_take {L : List Rl} {N : ByteArray} {q : Int} {c : Nat} : ∀ {k : Nat}, k ≤ c → cmpK (L.take c) N q k = cmpK L N q k
  | 0, _ => rfl
  | k + 1, h => by
    unfold cmpK
    rw [cmp_take (Nat.le_of_succ_le h), List.getElem?_take, if_pos (by omega)]
theorem cmp_drop {L : List Rl} {N t : ByteArray} {q p : Int} {k : Nat} (h : cmpK L N q k = some (t, p)) : ∀ d, cmpK (L.drop k) t p d = cmpK L N q (k + d)
  | 0 => by
    rw [Nat.add_zero, h]
    unfold cmpK
    rw [cmp_name h]; rfl
  | d + 1 => by
    show (match cmpK (L.drop k) t p d with | none => none | some (x, p) => match (L.drop k)[d]? with | some r => if (toRem r x).2 then some ((toRem r x).1, min p r.qos) else none | none => none) = (match cmpK L N q (k + d) with | none => none | some (x, p) => match L[k + d]? with | some r => if (toRem r x).2 then some ((toRem r x).1, min p r.qos) else none | none => none)
    rw [cmp_drop h d, List.getElem?_drop]
/-- The least QoS of the first of them. -/
def minK (L : List Rl) (q : Int) : Nat → Int
  | 0 => q
  | k + 1 => match L[k]? with | some r => min (minK L q k) r.qos | none => minK L q k
theorem min_succ {L : List Rl} {q : Int} {k : Nat} {r : Rl} (h : L[k]? = some r) : minK L q (k + 1) = min (minK L q k) r.qos := by
  show (match L[k]? with | some r => min (minK L q k) r.qos | none => minK L q k) = _
  rw [h]
theorem cmp_min {L : List Rl} {N : ByteArray} {q : Int} : ∀ {k : Nat} {x : ByteArray} {p : Int}, cmpK L N q k = some (x, p) → p = minK L q k
  | 0, x, p, h => by
    unfold cmpK at h
    split at h
    · injection h with h; injection h with _ h2; exact h2.symm
    · cases h
  | k + 1, x, p, h => by
    unfold cmpK at h
    split at h
    · cases h
    · rename_i y p' hy
      split at h
      · rename_i r hr
        split at h
        · injection h with h
          injection h with _ h2
          rw [min_succ hr, ← cmp_min hy]; exact h2.symm
        · cases h
      · cases h
theorem own_rrow2 {w : World} {base m : Nat} {e : TypeId} {v : Value} {L : List Rl} (h : w.ownsRow base e 5 v m (flat5 L)) (hm : m = L.length) : (v = .slice none 0 0 ∧ m = 0) ∨ ∃ g cap, v = .slice (some ⟨g, 0, none⟩) m cap ∧ m ≤ cap ∧ cap ≤ maxLen ∧ RRow w (some ⟨g, 0, none⟩) L := by
  subst hm
  rcases h.2 with ⟨rfl, h0⟩ | ⟨g, cap, cur, rfl, _, hh, hnc, hx⟩
  · exact .inl ⟨rfl, by have := flat5_len L; rw [h0] at this; simp at this; omega⟩
  · obtain ⟨A1, c1, e1, h1, h2⟩ := own_rrow h rfl
    injection e1 with e1 _ e2
    subst e1
    exact .inr ⟨_, cap, rfl, hnc, hx.1, h2⟩
theorem rrow_take {w : World} {A : Option Addr} {L : List Rl} {k : Nat} (h : RRow w A L) : RRow w A (L.take k) := h.take
theorem rrow_drop {w : World} {b o : Nat} {L : List Rl} {k : Nat} (h : RRow w (some ⟨b, o, none⟩) L) : RRow w (some ⟨b, o + k * 5, none⟩) (L.drop k) := fun hp => by
  obtain ⟨b1, o1, e, h1, h2⟩ := h (by rw [List.length_drop] at hp; omega)
  injection e with e
  injection e with e1 e2
  subst e1 e2
  refine ⟨b, o + k * 5, rfl, h1, fun i x hx => ?_⟩
  rw [List.getElem?_drop] at hx
  have := h2 (k + i) x hx
  rw [show o + (k + i) * 5 = o + k * 5 + i * 5 from by omega] at this
  exact this
end Go.Proofs.YtdjiioidkgppjaaDoor
