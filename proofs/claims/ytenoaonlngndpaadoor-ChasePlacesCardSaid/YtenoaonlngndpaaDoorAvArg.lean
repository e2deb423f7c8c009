/- What the form's reading says of the arguments of law 22. -/
import Derived.Test.YtenoaonlngndpaaDoorSafe
import Derived.Test.YtenoaonlngndpaaDoorRows
import Derived.WalkKit
import Derived.ProofKit
import Derived.OpenShut
import Derived.ShutString
import Derived.SizedLaws
import Derived.Deep.Slices
import Derived.Deep.Fields
namespace Go.Proofs.YtenoaonlngndpaaDoor
open Go.ChangeShapes Go.WideShapes Go.RowKit Go.Deep Pl
set_option linter.unusedVariables false
set_option linter.unusedSimpArgs false

theorem cell_plainV {w : World} {a : Addr} {v : Value} (h : w.cell? a = some v) : a.spot = none ∧ a.block < w.heap.size := by
  unfold World.cell? at h
  split at h
  · rename_i hg
    refine ⟨?_, (Array.getElem?_eq_some_iff.1 hg).1⟩
    split at h
    · cases h
    · rename_i hs; simpa using hs
  · cases h
theorem weightsAll_memV {H : Type} {P : Program} {e : TypeId} {n : Nat} : ∀ {l : List (DataW H)} {d : DataW H}, d ∈ l → n ∈ d.weights P e → n ∈ DataW.weightsAll P e l
  | y :: r, d, h, hn => by
    unfold DataW.weightsAll
    rw [List.mem_append]
    rcases List.mem_cons.1 h with rfl | h
    · exact .inl hn
    · exact .inr (weightsAll_memV h hn)
section
variable {H : Type} {enc : TypeId × Value → H} {w : World}
/-- A slice, of whatever elements, each bounded by its weights. -/
theorem open_rowZ {α : Type} {e t k : Nat} (cells : α → List Value) (ok : α → Prop) (dft : α) (hk : Tryd.prog.cellsOf e = k) (hk0 : 0 < k) (hlen : ∀ r, (cells r).length = k) (ht : Tryd.prog.underlying t = some (.slice e))
    (rd : ∀ n cs' y, DataW.trod enc Tryd.prog w 0 (fun _ => true) true n e cs' = some y → (∀ m ∈ y.1.weights Tryd.prog e, m ≤ reachBytes) → ∃ r, cs' = cells r ∧ ok r) {fuel : Nat} {cs : List Value} {x : DataW H × List MemPlace} (h : DataW.trod enc Tryd.prog w 0 (fun _ => true) true fuel t cs = some x)
    (hsz : ∀ n ∈ x.1.weights Tryd.prog t, n ≤ reachBytes) :
    ∃ (A : Option Addr) (cap : Nat) (L : List α), cs = [.slice A L.length cap] ∧ L.length ≤ cap ∧ cap ≤ maxLen ∧ (∀ r ∈ L, ok r) ∧
      (0 < L.length → ∃ b o, A = some ⟨b, o, none⟩ ∧ b < w.heap.size ∧ ∀ i r, L[i]? = some r → ∀ j u, (cells r)[j]? = some u → w.cell? ⟨b, o + i * k + j, none⟩ = some u) := by
  rcases open_slice ht h with ⟨hcs, hx⟩ | ⟨a, len, cap, m, n, D, Pc, hcs, _, hl, hm, hmm, hx, hi⟩
  · exact ⟨none, 0, [], hcs, Nat.le_refl _, Nat.zero_le _, (fun r hr => by cases hr), (fun h => absurd h (Nat.lt_irrefl 0))⟩
  · have hlm : len ≤ m := by rw [hmm]; split <;> omega
    rw [hx] at hsz
    unfold DataW.weights at hsz
    rw [ht] at hsz
    have each : ∀ i, ∃ q : α, i < len → (∀ j u, (cells q)[j]? = some u → w.cell? ((a.add (i * k)).add j) = some u) ∧ ok q := fun i => by
      by_cases hil : i < len
      · obtain ⟨cs', hc, ht'⟩ := hi i (by omega)
        obtain ⟨q, hq, hfit⟩ := rd _ _ _ ht' (fun n hn => hsz n (List.mem_cons_of_mem _ (List.mem_append.2 (.inl (weightsAll_memV (List.mem_map.2 ⟨i, List.mem_range.2 hil, rfl⟩) hn)))))
        rw [hk] at hc
        obtain ⟨_, hcl, hat⟩ := World.cells?_some hc
        refine ⟨q, fun _ => ⟨fun j u hj => ?_, hfit⟩⟩
        have hj4 : j < k := by
          rw [← hlen q]; exact (List.getElem?_eq_some_iff.1 hj).1
        rw [hat j hj4, hq]
        exact hj
      · exact ⟨dft, fun h => absurd h hil⟩
    have hS := fun i => Classical.choose_spec (each i)
    have hLl : ((List.range len).map fun i => Classical.choose (each i)).length = len := by simp
    refine ⟨some a, cap, (List.range len).map (fun i => Classical.choose (each i)), by rw [hLl]; exact hcs, by rw [hLl]; exact hl, hm, fun r hr => ?_, fun hp => ?_⟩
    · obtain ⟨i, hir, rfl⟩ := List.mem_map.1 hr
      exact (hS i (List.mem_range.1 hir)).2
    · rw [hLl] at hp
      have hz : 0 < (cells (Classical.choose (each 0))).length := by rw [hlen]; exact hk0
      have h00 := (hS 0 hp).1 0 _ (List.getElem?_eq_getElem hz)
      have e0 : (a.add (0 * k)).add 0 = a := by unfold Addr.add; simp
      rw [e0] at h00
      obtain ⟨hs, hb⟩ := cell_plainV h00
      obtain ⟨b, o, sp⟩ := a
      obtain rfl : sp = none := hs
      refine ⟨b, o, rfl, hb, fun i q hq j u hu => ?_⟩
      have hil : i < len := by have := (List.getElem?_eq_some_iff.1 hq).1; rw [hLl] at this; exact this
      rw [List.getElem?_map, List.getElem?_range hil] at hq
      obtain rfl : Classical.choose (each i) = q := by simpa using hq
      have c := (hS i hil).1 j u hu
      rw [Go.WideShapes.add_plain, Go.WideShapes.add_plain] at c
      exact c
set_option maxRecDepth 100000 in
/-- The fields of a rule. -/
theorem read5V {base : Nat} {spare : Nat → Bool} {held : Bool} {fuel : Nat} {cs : List Value} {x : DataW H × List MemPlace} (h : DataW.trod enc Tryd.prog w base spare held fuel 99 cs = some x)
    (hsz : ∀ n ∈ x.1.weights Tryd.prog 99, n ≤ reachBytes) : ∃ r : Rl, cs = (ruC r).toList ∧ r.fits := by
  have k3 : Tryd.prog.cellsOf 3 = 1 := by kernel_rfl
  have k9 : Tryd.prog.cellsOf 9 = 1 := by kernel_rfl
  obtain ⟨xs, n, _, hx, hl, hxl, hf⟩ := DataW.trod_struct Tryd.underlying99 h
  have hl5 : cs.length = 5 := hl.trans (by kernel_rfl)
  match cs, hl5 with
  | [v0, v1, v2, v3, v4], _ =>
    match xs, hxl with
    | [x0, x1, x2, x3, x4], _ =>
      have h0 : DataW.trod enc Tryd.prog w base spare held n 9 [v0] = some x0 := by simpa [k9] using hf 0 _ rfl
      have h1 : DataW.trod enc Tryd.prog w base spare held n 3 [v1] = some x1 := by simpa [k3] using hf 1 _ rfl
      have h2 : DataW.trod enc Tryd.prog w base spare held n 3 [v2] = some x2 := by simpa [k3] using hf 2 _ rfl
      have h3 : DataW.trod enc Tryd.prog w base spare held n 9 [v3] = some x3 := by simpa [k9] using hf 3 _ rfl
      have h4 : DataW.trod enc Tryd.prog w base spare held n 9 [v4] = some x4 := by simpa [k9] using hf 4 _ rfl
      obtain ⟨s0, e0, y0, z0⟩ := DataW.trod_string Tryd.underlying9 h0
      obtain ⟨i1, e1, y1, z1⟩ := DataW.trod_int Tryd.underlying3 h1
      obtain ⟨i2, e2, y2, z2⟩ := DataW.trod_int Tryd.underlying3 h2
      obtain ⟨s3, e3, y3, z3⟩ := DataW.trod_string Tryd.underlying9 h3
      obtain ⟨s4, e4, y4, z4⟩ := DataW.trod_string Tryd.underlying9 h4
      simp only [List.cons.injEq, and_true] at e0 e1 e2 e3 e4
      subst e0 e1 e2 e3 e4
      subst y0 y1 y2 y3 y4
      subst hx
      simp only [List.map_cons, List.map_nil, DataW.weights, Tryd.underlying99, DataW.weightsEach, List.append_nil, List.cons_append, List.nil_append, List.mem_cons, List.not_mem_nil, or_false] at hsz
      have hb1 := i64_bd z1
      have hb2 := i64_bd z2
      exact ⟨⟨s0, i1, i2, s3, s4⟩, rfl, size_reach (hsz _ (.inl rfl)), size_reach (hsz _ (.inr (.inl rfl))), size_reach (hsz _ (.inr (.inr rfl))), hb1.1, hb1.2, hb2.1, hb2.2⟩
set_option maxRecDepth 100000 in
theorem readLk {base : Nat} {spare : Nat → Bool} {held : Bool} {fuel : Nat} {cs : List Value} {x : DataW H × List MemPlace} (h : DataW.trod enc Tryd.prog w base spare held fuel 101 cs = some x)
    (hsz : ∀ n ∈ x.1.weights Tryd.prog 101, n ≤ reachBytes) : ∃ l : Lk, cs = lkC l ∧ l.rule.fits := by
  have k3 : Tryd.prog.cellsOf 3 = 1 := by kernel_rfl
  have k9 : Tryd.prog.cellsOf 99 = 5 := by kernel_rfl
  obtain ⟨xs, n, _, hx, hl, hxl, hf⟩ := DataW.trod_struct Tryd.underlying101 h
  have hl6 : cs.length = 6 := hl.trans (by kernel_rfl)
  match cs, hl6 with
  | [v0, v1, v2, v3, v4, v5], _ =>
    match xs, hxl with
    | [x0, x1], _ =>
      have h0 : DataW.trod enc Tryd.prog w base spare held n 3 [v0] = some x0 := by simpa [k3] using hf 0 _ rfl
      have h1 : DataW.trod enc Tryd.prog w base spare held n 99 [v1, v2, v3, v4, v5] = some x1 := by simpa [k9] using hf 1 _ rfl
      obtain ⟨i0, e0, y0, z0⟩ := DataW.trod_int Tryd.underlying3 h0
      simp only [List.cons.injEq, and_true] at e0
      subst e0
      subst y0
      subst hx
      simp only [List.map_cons, List.map_nil, DataW.weights, Tryd.underlying101, DataW.weightsEach, List.append_nil, List.cons_append, List.nil_append] at hsz
      obtain ⟨r, hr, hfit⟩ := read5V h1 (fun n hn => hsz n hn)
      exact ⟨⟨i0, r⟩, by rw [hr]; rfl, hfit⟩
theorem readStr {fuel : Nat} {cs : List Value} {x : DataW H × List MemPlace} (h : DataW.trod enc Tryd.prog w 0 (fun _ => true) true fuel 9 cs = some x) (hsz : ∀ n ∈ x.1.weights Tryd.prog 9, n ≤ reachBytes) : ∃ s : ByteArray, cs = [.string s] ∧ s.size ≤ 140737488351232 := by
  obtain ⟨s, e, y, z⟩ := DataW.trod_string Tryd.underlying9 h
  subst y
  simp only [DataW.weights, List.mem_cons, List.not_mem_nil, or_false] at hsz
  exact ⟨s, e, size_reach (hsz _ rfl)⟩
/-- An advert with the slices that it holds. -/
def avC (r : Ad × Value × Value) : List Value := [.int .i64 r.1.owner, .int .i64 r.1.version, r.2.1, r.2.2]
set_option maxRecDepth 100000 in
theorem readAv {fuel : Nat} {cs : List Value} {x : DataW H × List MemPlace} (h : DataW.trod enc Tryd.prog w 0 (fun _ => true) true fuel 66 cs = some x)
    (hsz : ∀ n ∈ x.1.weights Tryd.prog 66, n ≤ reachBytes) : ∃ r : Ad × Value × Value, cs = avC r ∧ Strs w r.2.1 r.1.fs ∧ LkRow w r.2.2 r.1.ls ∧ AvFits r.1 := by
  have k3 : Tryd.prog.cellsOf 3 = 1 := by kernel_rfl
  have k2 : Tryd.prog.cellsOf 2 = 1 := by kernel_rfl
  have k4 : Tryd.prog.cellsOf 44 = 1 := by kernel_rfl
  have k5 : Tryd.prog.cellsOf 64 = 1 := by kernel_rfl
  have k9 : Tryd.prog.cellsOf 9 = 1 := by kernel_rfl
  have k6 : Tryd.prog.cellsOf 101 = 6 := by kernel_rfl
  obtain ⟨xs, n, _, hx, hl, hxl, hf⟩ := DataW.trod_struct Tryd.underlying66 h
  have hl4 : cs.length = 4 := hl.trans (by kernel_rfl)
  match cs, hl4 with
  | [v0, v1, v2, v3], _ =>
    match xs, hxl with
    | [x0, x1, x2, x3], _ =>
      have h0 : DataW.trod enc Tryd.prog w 0 (fun _ => true) true n 3 [v0] = some x0 := by simpa [k3] using hf 0 _ rfl
      have h1 : DataW.trod enc Tryd.prog w 0 (fun _ => true) true n 2 [v1] = some x1 := by simpa [k2] using hf 1 _ rfl
      have h2 : DataW.trod enc Tryd.prog w 0 (fun _ => true) true n 44 [v2] = some x2 := by simpa [k4] using hf 2 _ rfl
      have h3 : DataW.trod enc Tryd.prog w 0 (fun _ => true) true n 64 [v3] = some x3 := by simpa [k5] using hf 3 _ rfl
      obtain ⟨i0, e0, y0, z0⟩ := DataW.trod_int Tryd.underlying3 h0
      obtain ⟨i1, e1, y1, z1⟩ := DataW.trod_int Tryd.underlying2 h1
      simp only [List.cons.injEq, and_true] at e0 e1
      subst e0 e1
      subst y0 y1
      subst hx
      simp only [List.map_cons, List.map_nil, DataW.weights, Tryd.underlying66, DataW.weightsEach, List.append_nil, List.nil_append, List.mem_append] at hsz
      obtain ⟨A, cap, fs, e2, p1, p2, p3, p4⟩ := open_rowZ (fun s : ByteArray => [.string s]) (fun s => s.size ≤ 140737488351232) ⟨#[]⟩ k9 (by decide) (fun _ => rfl) Tryd.underlying44 (fun _ _ _ h hz => readStr h hz) h2 (fun n hn => hsz n (.inl hn))
      obtain ⟨A', cap', ls, e3, r1, r2, r3, r4⟩ := open_rowZ lkC (fun l => l.rule.fits) ⟨0, ⟨⟨#[]⟩, 0, 0, ⟨#[]⟩, ⟨#[]⟩⟩⟩ k6 (by decide) (fun _ => rfl) Tryd.underlying64 (fun _ _ _ h hz => readLk h hz) h3 (fun n hn => hsz n (.inr hn))
      simp only [List.cons.injEq, and_true] at e2 e3
      subst e2 e3
      refine ⟨(⟨i0, i1, fs, ls⟩, _, _), rfl, ⟨A, cap, rfl, p1, p2, fun hp => ?_⟩, ⟨A', cap', rfl, r1, r2, r4⟩, p3, r3⟩
      obtain ⟨b, o, e, hb, hc⟩ := p4 hp
      exact ⟨b, o, e, hb, fun i x hi => by have := hc i x hi 0 _ rfl; simpa using this⟩
set_option maxRecDepth 100000 in
theorem open_avs_arg {v : Value} {d : DataW H} {p : List MemPlace} {r : Reach} {b0 : Nat} (hsz : ∀ n ∈ d.weights Tryd.prog 22, n ≤ reachBytes) (hv : Value.okWide Tryd.prog w r b0 22 v) (h : DataW.Trod enc Tryd.prog w 0 (fun _ => true) true 22 v d p) :
    ∃ L : List Ad, (AvRow w v L ∧ ∀ a ∈ L, AvFits a) ∧ True := by
  obtain ⟨fuel, hf⟩ := h
  obtain ⟨a0, l0, c0, rfl⟩ := okWide_slice Tryd.underlying22 hv
  obtain ⟨A, cap, L, e, q1, q2, q3, q4⟩ := open_rowZ avC (fun r => Strs w r.2.1 r.1.fs ∧ LkRow w r.2.2 r.1.ls ∧ AvFits r.1) (⟨0, 0, [], []⟩, .slice none 0 0, .slice none 0 0) (show Tryd.prog.cellsOf 66 = 4 by kernel_rfl) (by decide) (fun _ => rfl) Tryd.underlying22 (fun _ _ _ h hz => readAv h hz) hf hsz
  simp [Value.cells] at e
  obtain ⟨rfl, rfl, rfl⟩ := e
  refine ⟨L.map (·.1), ⟨⟨a0, c0, by rw [List.length_map], by rw [List.length_map]; exact q1, q2, fun hp => ?_⟩, fun a ha => ?_⟩, trivial⟩
  · rw [List.length_map] at hp
    obtain ⟨b, o, e, hb, hc⟩ := q4 hp
    refine ⟨b, o, e, hb, fun i a hi => ?_⟩
    rw [List.getElem?_map] at hi
    obtain ⟨y, hy, rfl⟩ := Option.map_eq_some_iff.1 hi
    have hk := q3 y (List.mem_of_getElem? hy)
    exact ⟨y.2.1, y.2.2, hc i y hy 0 _ rfl, hc i y hy 1 _ rfl, hc i y hy 2 _ rfl, hc i y hy 3 _ rfl, hk.1, hk.2.1⟩
  · obtain ⟨y, hy, rfl⟩ := List.mem_map.1 ha
    exact (q3 y hy).2.2
theorem readI {fuel : Nat} {cs : List Value} {x : DataW H × List MemPlace} (h : DataW.trod enc Tryd.prog w 0 (fun _ => true) true fuel 3 cs = some x) : ∃ s : Int, cs = [.int .i64 s] ∧ (-9223372036854775808 ≤ s ∧ s ≤ 9223372036854775807) := by
  obtain ⟨s, e, y, z⟩ := DataW.trod_int Tryd.underlying3 h
  exact ⟨s, e, i64_bd z⟩
set_option maxRecDepth 100000 in
theorem open_irow_arg {v : Value} {d : DataW H} {p : List MemPlace} {r : Reach} {b0 : Nat} (hsz : ∀ n ∈ d.weights Tryd.prog 41, n ≤ reachBytes) (hv : Value.okWide Tryd.prog w r b0 41 v) (h : DataW.Trod enc Tryd.prog w 0 (fun _ => true) true 41 v d p) :
    ∃ L : List Int, IRow w v L ∧ True := by
  obtain ⟨fuel, hf⟩ := h
  obtain ⟨a0, l0, c0, rfl⟩ := okWide_slice Tryd.underlying41 hv
  obtain ⟨A, cap, L, e, q1, q2, q3, q4⟩ := open_rowZ (fun s : Int => [.int .i64 s]) (fun s => -9223372036854775808 ≤ s ∧ s ≤ 9223372036854775807) 0 (show Tryd.prog.cellsOf 3 = 1 by kernel_rfl) (by decide) (fun _ => rfl) Tryd.underlying41 (fun _ _ _ h _ => readI h) hf hsz
  simp [Value.cells] at e
  obtain ⟨rfl, rfl, rfl⟩ := e
  refine ⟨L, ⟨a0, c0, rfl, q1, q2, q3, fun hp => ?_⟩, trivial⟩
  obtain ⟨b, o, e, hb, hc⟩ := q4 hp
  exact ⟨b, o, e, hb, fun i x hi => by have := hc i x hi 0 _ rfl; simpa using this⟩
end
end Go.Proofs.YtenoaonlngndpaaDoor
