/- What the form's reading says of an argument that is a packet. -/
import Derived.Test.YtedapgeabpadaaaDoorRows
import Derived.Test.YtedapgeabpadaaaDoorQkL1
import Derived.WalkKit
import Derived.ProofKit
import Derived.OpenShut
import Derived.ShutString
import Derived.SizedLaws
import Derived.Deep.Slices
import Derived.Deep.Fields
namespace Go.Proofs.YtedapgeabpadaaaDoor
open Go.ChangeShapes Go.WideShapes Go.RowKit Go.Deep Pl
set_option linter.unusedVariables false

theorem bulk_pos {H : Type} : ∀ d : DataW H, 1 ≤ Rows.uptoBulk d
  | .lit l => by cases l <;> simp [Rows.uptoBulk]
  | .nil => by simp [Rows.uptoBulk]
  | .ptr d => by rw [Rows.uptoBulk]; omega
  | .slice a b => by rw [Rows.uptoBulk]; omega
  | .agg a => by rw [Rows.uptoBulk]; omega
  | .iface _ d => by rw [Rows.uptoBulk]; omega
  | .map e => by rw [Rows.uptoBulk]; omega
  | .held _ => by simp [Rows.uptoBulk]
theorem bulk_length {H : Type} : ∀ l : List (DataW H), l.length ≤ Rows.uptoBulkAll l
  | [] => Nat.zero_le _
  | x :: r => by
    have := bulk_length r
    have := bulk_pos x
    rw [Rows.uptoBulkAll, List.length_cons]; omega
theorem bulk_memD {H : Type} {x : DataW H} : ∀ {l : List (DataW H)}, x ∈ l → Rows.uptoBulk x ≤ Rows.uptoBulkAll l
  | y :: r, h => by
    rw [Rows.uptoBulkAll]
    rcases List.mem_cons.1 h with rfl | h
    · omega
    · have := bulk_memD h; omega
theorem cell_plain5 {w : World} {a : Addr} {v : Value} (h : w.cell? a = some v) : a.spot = none ∧ a.block < w.heap.size := by
  unfold World.cell? at h
  split at h
  · rename_i hg
    refine ⟨?_, (Array.getElem?_eq_some_iff.1 hg).1⟩
    split at h
    · cases h
    · rename_i hs; simpa using hs
  · cases h
section
variable {H : Type} {enc : TypeId × Value → H} {w : World}
/-- A slice, of whatever elements. -/
theorem open_row {α : Type} {e t k : Nat} (cells : α → List Value) (sz : α → Nat) (ok : α → Prop) (dft : α) (hk : Tryd.prog.cellsOf e = k) (hk0 : 0 < k) (hlen : ∀ r, (cells r).length = k) (ht : Tryd.prog.underlying t = some (.slice e))
    (rd : ∀ n cs' y, DataW.trod enc Tryd.prog w 0 (fun _ => true) true n e cs' = some y → ∃ r, cs' = cells r ∧ ok r ∧ sz r ≤ Rows.uptoBulk y.1) {fuel : Nat} {cs : List Value} {x : DataW H × List MemPlace} (h : DataW.trod enc Tryd.prog w 0 (fun _ => true) true fuel t cs = some x) :
    ∃ (A : Option Addr) (cap : Nat) (L : List α), cs = [.slice A L.length cap] ∧ L.length ≤ cap ∧ cap ≤ maxLen ∧ ((A = none ∧ cap = 0) ∨ ∃ a, A = some a) ∧ L.length ≤ Rows.uptoBulk x.1 ∧ (∀ r ∈ L, ok r ∧ sz r ≤ Rows.uptoBulk x.1) ∧
      (0 < L.length → ∃ b o, A = some ⟨b, o, none⟩ ∧ b < w.heap.size ∧ ∀ i r, L[i]? = some r → ∀ j u, (cells r)[j]? = some u → w.cell? ⟨b, o + i * k + j, none⟩ = some u) := by
  rcases open_slice ht h with ⟨hcs, hx⟩ | ⟨a, len, cap, m, n, D, Pc, hcs, _, hl, hm, hmm, hx, hi⟩
  · exact ⟨none, 0, [], hcs, Nat.le_refl _, Nat.zero_le _, .inl ⟨rfl, rfl⟩, Nat.zero_le _, (fun r hr => by cases hr), (fun h => absurd h (Nat.lt_irrefl 0))⟩
  · have hlm : len ≤ m := by rw [hmm]; split <;> omega
    have each : ∀ i, ∃ q : α, i < len → (∀ j u, (cells q)[j]? = some u → w.cell? ((a.add (i * k)).add j) = some u) ∧ ok q ∧ sz q ≤ Rows.uptoBulk (D i) := fun i => by
      by_cases hil : i < len
      · obtain ⟨cs', hc, ht⟩ := hi i (by omega)
        obtain ⟨q, hq, hfit, hsz⟩ := rd _ _ _ ht
        rw [hk] at hc
        obtain ⟨_, hcl, hat⟩ := World.cells?_some hc
        refine ⟨q, fun _ => ⟨fun j u hj => ?_, hfit, hsz⟩⟩
        have hj4 : j < k := by
          rw [← hlen q]; exact (List.getElem?_eq_some_iff.1 hj).1
        rw [hat j hj4, hq]
        exact hj
      · exact ⟨dft, fun h => absurd h hil⟩
    have hS := fun i => Classical.choose_spec (each i)
    have hbulk : len ≤ Rows.uptoBulk x.1 ∧ ∀ i, i < len → Rows.uptoBulk (D i) ≤ Rows.uptoBulk x.1 := by
      rw [hx]
      simp only [Rows.uptoBulk]
      have h1 := bulk_length ((List.range len).map D)
      rw [List.length_map, List.length_range] at h1
      refine ⟨by omega, fun i hi => ?_⟩
      have h2 := bulk_memD (List.mem_map.2 ⟨i, List.mem_range.2 hi, rfl⟩ : D i ∈ (List.range len).map D)
      omega
    have hLl : ((List.range len).map fun i => Classical.choose (each i)).length = len := by simp
    refine ⟨some a, cap, (List.range len).map (fun i => Classical.choose (each i)), by rw [hLl]; exact hcs, by rw [hLl]; exact hl, hm, .inr ⟨a, rfl⟩, by rw [hLl]; exact hbulk.1, fun r hr => ?_, fun hp => ?_⟩
    · obtain ⟨i, hir, rfl⟩ := List.mem_map.1 hr
      have hil := List.mem_range.1 hir
      exact ⟨(hS i hil).2.1, Nat.le_trans (hS i hil).2.2 (hbulk.2 i hil)⟩
    · rw [hLl] at hp
      obtain ⟨u0, hu0⟩ : ∃ u, (cells (Classical.choose (each 0)))[0]? = some u := ⟨_, List.getElem?_eq_getElem (by rw [hlen]; exact hk0)⟩
      have h00 := (hS 0 hp).1 0 u0 hu0
      have e0 : (a.add (0 * k)).add 0 = a := by unfold Addr.add; simp
      rw [e0] at h00
      obtain ⟨hs, hb⟩ := cell_plain5 h00
      obtain ⟨b, o, sp⟩ := a
      obtain rfl : sp = none := hs
      refine ⟨b, o, rfl, hb, fun i q hq j u hj => ?_⟩
      have hil : i < len := by have := (List.getElem?_eq_some_iff.1 hq).1; rw [hLl] at this; exact this
      rw [List.getElem?_map, List.getElem?_range hil] at hq
      obtain rfl : Classical.choose (each i) = q := by simpa using hq
      have c := (hS i hil).1 j u hj
      rw [Go.WideShapes.add_plain, Go.WideShapes.add_plain] at c
      exact c
set_option maxRecDepth 100000 in
theorem read_prop {fuel : Nat} {cs : List Value} {x : DataW H × List MemPlace} (h : DataW.trod enc Tryd.prog w 0 (fun _ => true) true fuel 124 cs = some x) : ∃ r : Pp, cs = (ppA r).toList ∧ (-9223372036854775808 ≤ r.id ∧ r.id ≤ 9223372036854775807 ∧ -9223372036854775808 ≤ r.n ∧ r.n ≤ 9223372036854775807) ∧ r.s.size + r.t.size ≤ Rows.uptoBulk x.1 := by
  have k3 : Tryd.prog.cellsOf 3 = 1 := by kernel_rfl
  have k9 : Tryd.prog.cellsOf 9 = 1 := by kernel_rfl
  have k4 : Tryd.prog.cellsOf 4 = 1 := by kernel_rfl
  obtain ⟨xs, n, _, hx, hl, hxl, hf⟩ := DataW.trod_struct Tryd.underlying124 h
  have hlc : cs.length = 4 := hl.trans (by kernel_rfl)
  match cs, hlc with
  | [v0, v1, v2, v3], _ =>
    match xs, hxl with
    | [x0, x1, x2, x3], _ =>
      have h0 : DataW.trod enc Tryd.prog w 0 (fun _ => true) true n 3 [v0] = some x0 := by simpa [k3] using hf 0 _ rfl
      have h1 : DataW.trod enc Tryd.prog w 0 (fun _ => true) true n 3 [v1] = some x1 := by simpa [k3] using hf 1 _ rfl
      have h2 : DataW.trod enc Tryd.prog w 0 (fun _ => true) true n 9 [v2] = some x2 := by simpa [k9] using hf 2 _ rfl
      have h3 : DataW.trod enc Tryd.prog w 0 (fun _ => true) true n 9 [v3] = some x3 := by simpa [k9] using hf 3 _ rfl
      obtain ⟨i0, e0, y0, z0⟩ := DataW.trod_int Tryd.underlying3 h0
      obtain ⟨i1, e1, y1, z1⟩ := DataW.trod_int Tryd.underlying3 h1
      obtain ⟨i2, e2, y2, z2⟩ := DataW.trod_string Tryd.underlying9 h2
      obtain ⟨i3, e3, y3, z3⟩ := DataW.trod_string Tryd.underlying9 h3
      simp only [List.cons.injEq, and_true] at e0 e1 e2 e3
      subst e0 e1 e2 e3
      subst y0 y1 y2 y3
      subst hx
      have b0 := i64_bd z0
      have b1 := i64_bd z1
      have l2 : i2.data.toList.length = i2.size := rfl
      have l3 : i3.data.toList.length = i3.size := rfl
      simp only [List.map_cons, List.map_nil, Rows.uptoBulk, Rows.uptoBulkAll]
      exact ⟨⟨i0, i1, i2, i3⟩, rfl, ⟨b0.1, b0.2, b1.1, b1.2⟩, by dsimp only; omega⟩
set_option maxRecDepth 100000 in
theorem read_sub {fuel : Nat} {cs : List Value} {x : DataW H × List MemPlace} (h : DataW.trod enc Tryd.prog w 0 (fun _ => true) true fuel 87 cs = some x) : ∃ r : Sb, cs = (sbA r).toList ∧ (i64B r.q ∧ i64B r.h) ∧ r.f.size ≤ Rows.uptoBulk x.1 := by
  have k3 : Tryd.prog.cellsOf 3 = 1 := by kernel_rfl
  have k9 : Tryd.prog.cellsOf 9 = 1 := by kernel_rfl
  have k4 : Tryd.prog.cellsOf 4 = 1 := by kernel_rfl
  obtain ⟨xs, n, _, hx, hl, hxl, hf⟩ := DataW.trod_struct Tryd.underlying87 h
  have hlc : cs.length = 5 := hl.trans (by kernel_rfl)
  match cs, hlc with
  | [v0, v1, v2, v3, v4], _ =>
    match xs, hxl with
    | [x0, x1, x2, x3, x4], _ =>
      have h0 : DataW.trod enc Tryd.prog w 0 (fun _ => true) true n 9 [v0] = some x0 := by simpa [k9] using hf 0 _ rfl
      have h1 : DataW.trod enc Tryd.prog w 0 (fun _ => true) true n 3 [v1] = some x1 := by simpa [k3] using hf 1 _ rfl
      have h2 : DataW.trod enc Tryd.prog w 0 (fun _ => true) true n 4 [v2] = some x2 := by simpa [k4] using hf 2 _ rfl
      have h3 : DataW.trod enc Tryd.prog w 0 (fun _ => true) true n 4 [v3] = some x3 := by simpa [k4] using hf 3 _ rfl
      have h4 : DataW.trod enc Tryd.prog w 0 (fun _ => true) true n 3 [v4] = some x4 := by simpa [k3] using hf 4 _ rfl
      obtain ⟨i0, e0, y0, z0⟩ := DataW.trod_string Tryd.underlying9 h0
      obtain ⟨i1, e1, y1, z1⟩ := DataW.trod_int Tryd.underlying3 h1
      obtain ⟨i2, e2, y2⟩ := DataW.trod_bool Tryd.underlying4 h2
      obtain ⟨i3, e3, y3⟩ := DataW.trod_bool Tryd.underlying4 h3
      obtain ⟨i4, e4, y4, z4⟩ := DataW.trod_int Tryd.underlying3 h4
      simp only [List.cons.injEq, and_true] at e0 e1 e2 e3 e4
      subst e0 e1 e2 e3 e4
      subst y0 y1 y2 y3 y4
      subst hx
      have l0 : i0.data.toList.length = i0.size := rfl
      have b1 := i64_bd z1
      have b4 := i64_bd z4
      simp only [List.map_cons, List.map_nil, Rows.uptoBulk, Rows.uptoBulkAll]
      exact ⟨⟨i0, i1, i2, i3, i4⟩, rfl, ⟨b1, b4⟩, by dsimp only; omega⟩
theorem read_byte {fuel : Nat} {cs : List Value} {x : DataW H × List MemPlace} (h : DataW.trod enc Tryd.prog w 0 (fun _ => true) true fuel 5 cs = some x) : ∃ r : Int, cs = [.int .u8 r] ∧ (0 ≤ r ∧ r ≤ 255) ∧ 0 ≤ Rows.uptoBulk x.1 := by
  obtain ⟨i, e, y, z⟩ := DataW.trod_int Tryd.underlying5 h
  refine ⟨i, e, ?_, Nat.zero_le _⟩
  simpa [Lit.wf, IntKind.min, IntKind.max, IntKind.signed, IntKind.bits] using z
theorem read_str {fuel : Nat} {cs : List Value} {x : DataW H × List MemPlace} (h : DataW.trod enc Tryd.prog w 0 (fun _ => true) true fuel 9 cs = some x) : ∃ r : ByteArray, cs = [.string r] ∧ True ∧ r.size ≤ Rows.uptoBulk x.1 := by
  obtain ⟨i, e, y, z⟩ := DataW.trod_string Tryd.underlying9 h
  subst y
  refine ⟨i, e, trivial, ?_⟩
  have l : i.data.toList.length = i.size := rfl
  simp only [Rows.uptoBulk]
  omega
end
/-- A packet, its slices, its bulk. -/
structure PkX where
  p : Pk
  m : Hs
  z : Nat
def bulkPx (x : PkX) : Nat := x.z
def PkOk (w : World) (v : Value) (x : PkX) : Prop := x.z ≤ 1048576 → v = .agg (pkA .u8 x.p x.m) ∧ PkIn .u8 w x.p x.m ∧ PkCap x.m
section
variable {H : Type} {enc : TypeId × Value → H} {w : World}
theorem prow_of {A : Option Addr} {L : List Pp} (h : 0 < L.length → ∃ b o, A = some ⟨b, o, none⟩ ∧ b < w.heap.size ∧ ∀ i r, L[i]? = some r → ∀ j u, ((ppA r).toList)[j]? = some u → w.cell? ⟨b, o + i * 4 + j, none⟩ = some u) : PRow w A L := by
  intro hp
  obtain ⟨b, o, e, hl, hc⟩ := h hp
  exact ⟨b, o, e, hl, fun i r hr => ⟨hc i r hr 0 _ rfl, hc i r hr 1 _ rfl, hc i r hr 2 _ rfl, hc i r hr 3 _ rfl⟩⟩
theorem sbrow_of {A : Option Addr} {L : List Sb} (h : 0 < L.length → ∃ b o, A = some ⟨b, o, none⟩ ∧ b < w.heap.size ∧ ∀ i r, L[i]? = some r → ∀ j u, ((sbA r).toList)[j]? = some u → w.cell? ⟨b, o + i * 5 + j, none⟩ = some u) : SbRow w A L := by
  intro hp
  obtain ⟨b, o, e, hl, hc⟩ := h hp
  exact ⟨b, o, e, hl, fun i r hr => ⟨hc i r hr 0 _ rfl, hc i r hr 1 _ rfl, hc i r hr 2 _ rfl, hc i r hr 3 _ rfl, hc i r hr 4 _ rfl⟩⟩
theorem vrow_of {α : Type} {f : α → Value} {A : Option Addr} {L : List α} (h : 0 < L.length → ∃ b o, A = some ⟨b, o, none⟩ ∧ b < w.heap.size ∧ ∀ i r, L[i]? = some r → ∀ j u, ([f r])[j]? = some u → w.cell? ⟨b, o + i * 1 + j, none⟩ = some u) : VRow w A (L.map f) := by
  intro hp
  rw [List.length_map] at hp
  obtain ⟨b, o, e, hl, hc⟩ := h hp
  refine ⟨b, o, e, hl, fun i x hx => ?_⟩
  rw [List.getElem?_map] at hx
  obtain ⟨r, hr, rfl⟩ := Option.map_eq_some_iff.1 hx
  have := hc i r hr 0 _ rfl
  rw [Nat.mul_one, Nat.add_zero] at this
  exact this
/-- A will. -/
structure RdWill (w : World) (cs : List Value) (z : Nat) (t pl : ByteArray) (q : Int) (r : Bool) (A : Option Addr) (c : Nat) (L : List Pp) : Prop where
  cells : cs = [.string t, .string pl, .int .i64 q, .bool r, .slice A L.length c]
  q : i64B q
  t : t.size ≤ z
  p : pl.size ≤ z
  lc : L.length ≤ c
  cm : c ≤ maxLen
  an : (A = none ∧ c = 0) ∨ ∃ a, A = some a
  lb : L.length ≤ z
  ok : ∀ r ∈ L, (-9223372036854775808 ≤ r.id ∧ r.id ≤ 9223372036854775807 ∧ -9223372036854775808 ≤ r.n ∧ r.n ≤ 9223372036854775807) ∧ r.s.size + r.t.size ≤ z
  row : PRow w A L
set_option maxRecDepth 100000 in
theorem read_will {fuel : Nat} {cs : List Value} {x : DataW H × List MemPlace} (h : DataW.trod enc Tryd.prog w 0 (fun _ => true) true fuel 62 cs = some x) : ∃ t pl q r A c L, RdWill w cs (Rows.uptoBulk x.1) t pl q r A c L := by
  obtain ⟨xs, n, _, hx, hl, hxl, hf⟩ := DataW.trod_struct Tryd.underlying62 h
  have hlc : cs.length = 5 := hl.trans (by kernel_rfl)
  match cs, hlc with
  | [v0, v1, v2, v3, v4], _ =>
    match xs, hxl with
    | [x0, x1, x2, x3, x4], _ =>
      have h0 : DataW.trod enc Tryd.prog w 0 (fun _ => true) true n 9 [v0] = some x0 := by simpa [show Tryd.prog.cellsOf 9 = 1 from by kernel_rfl] using hf 0 _ rfl
      have h1 : DataW.trod enc Tryd.prog w 0 (fun _ => true) true n 9 [v1] = some x1 := by simpa [show Tryd.prog.cellsOf 9 = 1 from by kernel_rfl] using hf 1 _ rfl
      have h2 : DataW.trod enc Tryd.prog w 0 (fun _ => true) true n 3 [v2] = some x2 := by simpa [show Tryd.prog.cellsOf 3 = 1 from by kernel_rfl] using hf 2 _ rfl
      have h3 : DataW.trod enc Tryd.prog w 0 (fun _ => true) true n 4 [v3] = some x3 := by simpa [show Tryd.prog.cellsOf 4 = 1 from by kernel_rfl] using hf 3 _ rfl
      have h4 : DataW.trod enc Tryd.prog w 0 (fun _ => true) true n 60 [v4] = some x4 := by simpa [show Tryd.prog.cellsOf 60 = 1 from by kernel_rfl] using hf 4 _ rfl
      obtain ⟨i0, e0, _, b0⟩ := read_str h0
      obtain ⟨i1, e1, _, b1⟩ := read_str h1
      obtain ⟨i2, e2, y2, z2⟩ := DataW.trod_int Tryd.underlying3 h2
      have b2 := i64_bd z2
      obtain ⟨i3, e3, y3⟩ := DataW.trod_bool Tryd.underlying4 h3
      obtain ⟨A4, c4, L4, e4, lc4, cm4, an4, lb4, ok4, row4⟩ := open_row (e := 124) (k := 4) (fun r : Pp => (ppA r).toList) (fun r => r.s.size + r.t.size) (fun r => -9223372036854775808 ≤ r.id ∧ r.id ≤ 9223372036854775807 ∧ -9223372036854775808 ≤ r.n ∧ r.n ≤ 9223372036854775807) ⟨0, 0, ⟨#[]⟩, ⟨#[]⟩⟩ (by kernel_rfl) (by decide) (fun _ => rfl) Tryd.underlying60 (fun n cs y h => read_prop h) h4
      simp only [List.cons.injEq, and_true] at e0 e1 e2 e3 e4
      subst e0 e1 e2 e3 e4
      have hb : ∀ y ∈ [x0, x1, x2, x3, x4], Rows.uptoBulk y.1 ≤ Rows.uptoBulk x.1 := by
        intro y hy
        rw [show x = (.agg ([x0, x1, x2, x3, x4].map (·.1)), x.2) from by rw [hx]]
        simp only [Rows.uptoBulk]
        have := bulk_memD (List.mem_map.2 ⟨y, hy, rfl⟩ : y.1 ∈ [x0, x1, x2, x3, x4].map (·.1))
        omega
      have q0 := hb x0 (by simp)
      have q1 := hb x1 (by simp)
      have q4 := hb x4 (by simp)
      exact ⟨i0, i1, i2, i3, A4, c4, L4, rfl, b2, by omega, by omega, lc4, cm4, an4, by omega, fun r hr => ⟨(ok4 r hr).1, by have := (ok4 r hr).2; omega⟩, prow_of row4⟩
set_option maxRecDepth 100000 in
set_option maxHeartbeats 4000000 in
theorem open_pk_arg {v : Value} {d : DataW H} {pl : List MemPlace} {r : Reach} {b0 : Nat} (hv : Value.okWide Tryd.prog w r b0 65 v) (h : DataW.Trod enc Tryd.prog w 0 (fun _ => true) true 65 v d pl) :
    ∃ x : PkX, PkOk w v x ∧ bulkPx x ≤ Rows.uptoBulk d := by
  obtain ⟨fuel, hf0⟩ := h
  obtain ⟨csA, rfl, _⟩ := okWide_struct Tryd.underlying65 hv
  obtain ⟨cs⟩ := csA
  have hf1 : DataW.trod enc Tryd.prog w 0 (fun _ => true) true fuel 65 cs = some (d, pl) := hf0
  obtain ⟨xs, n, _, hx, hl, hxl, hf⟩ := DataW.trod_struct Tryd.underlying65 hf1
  have hlc : cs.length = 26 := hl.trans (by kernel_rfl)
  match cs, hlc with
  | [v0, v1, v2, v3, v4, v5, v6, v7, v8, v9, v10, v11, v12, v13, v14, v15, v16, v17, v18, v19, v20, v21, v22, v23, v24, v25], _ =>
    match xs, hxl with
    | [x0, x1, x2, x3, x4, x5, x6, x7, x8, x9, x10, x11, x12, x13, x14, x15, x16, x17, x18, x19, x20, x21], _ =>
      have h0 : DataW.trod enc Tryd.prog w 0 (fun _ => true) true n 3 [v0] = some x0 := by simpa [show Tryd.prog.cellsOf 3 = 1 from by kernel_rfl] using hf 0 _ rfl
      have h1 : DataW.trod enc Tryd.prog w 0 (fun _ => true) true n 4 [v1] = some x1 := by simpa [show Tryd.prog.cellsOf 4 = 1 from by kernel_rfl] using hf 1 _ rfl
      have h2 : DataW.trod enc Tryd.prog w 0 (fun _ => true) true n 4 [v2] = some x2 := by simpa [show Tryd.prog.cellsOf 4 = 1 from by kernel_rfl] using hf 2 _ rfl
      have h3 : DataW.trod enc Tryd.prog w 0 (fun _ => true) true n 3 [v3] = some x3 := by simpa [show Tryd.prog.cellsOf 3 = 1 from by kernel_rfl] using hf 3 _ rfl
      have h4 : DataW.trod enc Tryd.prog w 0 (fun _ => true) true n 3 [v4] = some x4 := by simpa [show Tryd.prog.cellsOf 3 = 1 from by kernel_rfl] using hf 4 _ rfl
      have h5 : DataW.trod enc Tryd.prog w 0 (fun _ => true) true n 9 [v5] = some x5 := by simpa [show Tryd.prog.cellsOf 9 = 1 from by kernel_rfl] using hf 5 _ rfl
      have h6 : DataW.trod enc Tryd.prog w 0 (fun _ => true) true n 9 [v6] = some x6 := by simpa [show Tryd.prog.cellsOf 9 = 1 from by kernel_rfl] using hf 6 _ rfl
      have h7 : DataW.trod enc Tryd.prog w 0 (fun _ => true) true n 5 [v7] = some x7 := by simpa [show Tryd.prog.cellsOf 5 = 1 from by kernel_rfl] using hf 7 _ rfl
      have h8 : DataW.trod enc Tryd.prog w 0 (fun _ => true) true n 59 [v8] = some x8 := by simpa [show Tryd.prog.cellsOf 59 = 1 from by kernel_rfl] using hf 8 _ rfl
      have h9 : DataW.trod enc Tryd.prog w 0 (fun _ => true) true n 60 [v9] = some x9 := by simpa [show Tryd.prog.cellsOf 60 = 1 from by kernel_rfl] using hf 9 _ rfl
      have h10 : DataW.trod enc Tryd.prog w 0 (fun _ => true) true n 9 [v10] = some x10 := by simpa [show Tryd.prog.cellsOf 9 = 1 from by kernel_rfl] using hf 10 _ rfl
      have h11 : DataW.trod enc Tryd.prog w 0 (fun _ => true) true n 4 [v11] = some x11 := by simpa [show Tryd.prog.cellsOf 4 = 1 from by kernel_rfl] using hf 11 _ rfl
      have h12 : DataW.trod enc Tryd.prog w 0 (fun _ => true) true n 3 [v12] = some x12 := by simpa [show Tryd.prog.cellsOf 3 = 1 from by kernel_rfl] using hf 12 _ rfl
      have h13 : DataW.trod enc Tryd.prog w 0 (fun _ => true) true n 4 [v13] = some x13 := by simpa [show Tryd.prog.cellsOf 4 = 1 from by kernel_rfl] using hf 13 _ rfl
      have h14 : DataW.trod enc Tryd.prog w 0 (fun _ => true) true n 62 [v14, v15, v16, v17, v18] = some x14 := by simpa [show Tryd.prog.cellsOf 62 = 5 from by kernel_rfl] using hf 14 _ rfl
      have h15 : DataW.trod enc Tryd.prog w 0 (fun _ => true) true n 4 [v19] = some x15 := by simpa [show Tryd.prog.cellsOf 4 = 1 from by kernel_rfl] using hf 15 _ rfl
      have h16 : DataW.trod enc Tryd.prog w 0 (fun _ => true) true n 4 [v20] = some x16 := by simpa [show Tryd.prog.cellsOf 4 = 1 from by kernel_rfl] using hf 16 _ rfl
      have h17 : DataW.trod enc Tryd.prog w 0 (fun _ => true) true n 9 [v21] = some x17 := by simpa [show Tryd.prog.cellsOf 9 = 1 from by kernel_rfl] using hf 17 _ rfl
      have h18 : DataW.trod enc Tryd.prog w 0 (fun _ => true) true n 9 [v22] = some x18 := by simpa [show Tryd.prog.cellsOf 9 = 1 from by kernel_rfl] using hf 18 _ rfl
      have h19 : DataW.trod enc Tryd.prog w 0 (fun _ => true) true n 4 [v23] = some x19 := by simpa [show Tryd.prog.cellsOf 4 = 1 from by kernel_rfl] using hf 19 _ rfl
      have h20 : DataW.trod enc Tryd.prog w 0 (fun _ => true) true n 63 [v24] = some x20 := by simpa [show Tryd.prog.cellsOf 63 = 1 from by kernel_rfl] using hf 20 _ rfl
      have h21 : DataW.trod enc Tryd.prog w 0 (fun _ => true) true n 22 [v25] = some x21 := by simpa [show Tryd.prog.cellsOf 22 = 1 from by kernel_rfl] using hf 21 _ rfl
      obtain ⟨i0, e0, y0, z0⟩ := DataW.trod_int Tryd.underlying3 h0
      have b0 := i64_bd z0
      obtain ⟨i1, e1, y1⟩ := DataW.trod_bool Tryd.underlying4 h1
      obtain ⟨i2, e2, y2⟩ := DataW.trod_bool Tryd.underlying4 h2
      obtain ⟨i3, e3, y3, z3⟩ := DataW.trod_int Tryd.underlying3 h3
      have b3 := i64_bd z3
      obtain ⟨i4, e4, y4, z4⟩ := DataW.trod_int Tryd.underlying3 h4
      have b4 := i64_bd z4
      obtain ⟨i5, e5, _, b5⟩ := read_str h5
      obtain ⟨i6, e6, _, b6⟩ := read_str h6
      obtain ⟨i7, e7, b7, _⟩ := read_byte h7
      obtain ⟨A8, c8, L8, e8, lc8, cm8, an8, lb8, ok8, row8⟩ := open_row (e := 5) (k := 1) (fun r : Int => [Value.int .u8 r]) (fun _ => 0) (fun r => 0 ≤ r ∧ r ≤ 255) 0 (by kernel_rfl) (by decide) (fun _ => rfl) Tryd.underlying59 (fun n cs y h => read_byte h) h8
      obtain ⟨A9, c9, L9, e9, lc9, cm9, an9, lb9, ok9, row9⟩ := open_row (e := 124) (k := 4) (fun r : Pp => (ppA r).toList) (fun r => r.s.size + r.t.size) (fun r => -9223372036854775808 ≤ r.id ∧ r.id ≤ 9223372036854775807 ∧ -9223372036854775808 ≤ r.n ∧ r.n ≤ 9223372036854775807) ⟨0, 0, ⟨#[]⟩, ⟨#[]⟩⟩ (by kernel_rfl) (by decide) (fun _ => rfl) Tryd.underlying60 (fun n cs y h => read_prop h) h9
      obtain ⟨i10, e10, _, b10⟩ := read_str h10
      obtain ⟨i11, e11, y11⟩ := DataW.trod_bool Tryd.underlying4 h11
      obtain ⟨i12, e12, y12, z12⟩ := DataW.trod_int Tryd.underlying3 h12
      have b12 := i64_bd z12
      obtain ⟨i13, e13, y13⟩ := DataW.trod_bool Tryd.underlying4 h13
      obtain ⟨wt, wp, wq, wr, wA, wc, wL, hwill⟩ := read_will h14
      have e14 := hwill.cells
      obtain ⟨i15, e15, y15⟩ := DataW.trod_bool Tryd.underlying4 h15
      obtain ⟨i16, e16, y16⟩ := DataW.trod_bool Tryd.underlying4 h16
      obtain ⟨i17, e17, _, b17⟩ := read_str h17
      obtain ⟨i18, e18, _, b18⟩ := read_str h18
      obtain ⟨i19, e19, y19⟩ := DataW.trod_bool Tryd.underlying4 h19
      obtain ⟨A20, c20, L20, e20, lc20, cm20, an20, lb20, ok20, row20⟩ := open_row (e := 87) (k := 5) (fun r : Sb => (sbA r).toList) (fun r => r.f.size) (fun r => i64B r.q ∧ i64B r.h) ⟨⟨#[]⟩, 0, false, false, 0⟩ (by kernel_rfl) (by decide) (fun _ => rfl) Tryd.underlying63 (fun n cs y h => read_sub h) h20
      obtain ⟨A21, c21, L21, e21, lc21, cm21, an21, lb21, ok21, row21⟩ := open_row (e := 9) (k := 1) (fun r : ByteArray => [Value.string r]) (fun r => r.size) (fun _ => True) ⟨#[]⟩ (by kernel_rfl) (by decide) (fun _ => rfl) Tryd.underlying22 (fun n cs y h => read_str h) h21
      simp only [List.cons.injEq, and_true] at e0 e1 e2 e3 e4 e5 e6 e7 e8 e9 e10 e11 e12 e13 e14 e15 e16 e17 e18 e19 e20 e21
      subst e0
      subst e1
      subst e2
      subst e3
      subst e4
      subst e5
      subst e6
      subst e7
      subst e8
      subst e9
      subst e10
      subst e11
      subst e12
      subst e13
      obtain ⟨rfl, rfl, rfl, rfl, rfl⟩ := e14
      subst e15
      subst e16
      subst e17
      subst e18
      subst e19
      subst e20
      subst e21
      have hb : ∀ y ∈ [x0, x1, x2, x3, x4, x5, x6, x7, x8, x9, x10, x11, x12, x13, x14, x15, x16, x17, x18, x19, x20, x21], Rows.uptoBulk y.1 ≤ Rows.uptoBulk d := by
        intro y hy
        have hd : d = .agg ([x0, x1, x2, x3, x4, x5, x6, x7, x8, x9, x10, x11, x12, x13, x14, x15, x16, x17, x18, x19, x20, x21].map (·.1)) := by injection hx
        rw [hd]
        simp only [Rows.uptoBulk]
        have := bulk_memD (List.mem_map.2 ⟨y, hy, rfl⟩ : y.1 ∈ [x0, x1, x2, x3, x4, x5, x6, x7, x8, x9, x10, x11, x12, x13, x14, x15, x16, x17, x18, x19, x20, x21].map (·.1))
        omega
      have q5 := hb x5 (by simp)
      have q6 := hb x6 (by simp)
      have q8 := hb x8 (by simp)
      have q9 := hb x9 (by simp)
      have q10 := hb x10 (by simp)
      have q14 := hb x14 (by simp)
      have q17 := hb x17 (by simp)
      have q18 := hb x18 (by simp)
      have q20 := hb x20 (by simp)
      have q21 := hb x21 (by simp)
      refine ⟨⟨⟨i0, i1, i2, i3, i4, i5, i6, i7, L8, L9, i10, i11, i12, i13, wt, wp, wq, wr, wL, i15, i16, i17, i18, i19, L20, L21⟩, ⟨⟨A8, L8.length, c8⟩, ⟨A9, L9.length, c9⟩, ⟨wA, wL.length, wc⟩, ⟨A20, L20.length, c20⟩, ⟨A21, L21.length, c21⟩⟩, Rows.uptoBulk d⟩, fun hz => ⟨rfl, ⟨?_, rfl, lc9, prow_of row9, rfl, hwill.lc, hwill.row, rfl, lc8, vrow_of row8, rfl, lc20, sbrow_of row20, rfl, lc21, vrow_of row21, an20, an21⟩, ⟨cm8, an8, cm9, an9, hwill.cm, hwill.an, cm20, cm21⟩⟩, Nat.le_refl _⟩
      dsimp only at hz
      have hp := hwill.p
      have ht := hwill.t
      have hlb := hwill.lb
      exact ⟨b0, b3, b4, b12, hwill.q, b7, by dsimp only; omega, by dsimp only; omega, by dsimp only; omega, by dsimp only; omega, by dsimp only; omega, by dsimp only; omega, by dsimp only; omega, ⟨by dsimp only; omega, fun r hr => by have := ok9 r hr; exact ⟨by omega, by omega, this.1.1, this.1.2.1, this.1.2.2.1, this.1.2.2.2⟩⟩, ⟨by dsimp only; omega, fun r hr => by have := hwill.ok r hr; exact ⟨by omega, by omega, this.1.1, this.1.2.1, this.1.2.2.1, this.1.2.2.2⟩⟩, ⟨by dsimp only; omega, fun r hr => (ok8 r hr).1⟩, ⟨by dsimp only; omega, fun r hr => by have := ok20 r hr; exact ⟨by omega, this.1.1, this.1.2⟩⟩, ⟨by dsimp only; omega, fun r hr => by have := ok21 r hr; omega⟩⟩
end
end Go.Proofs.YtedapgeabpadaaaDoor
