/- Parts of the proof, joined: PkArg, VarGet, GetP, Rs, TabsMod. -/
import Derived.Test.YtlnanenfpapfkaaDoorRows
import Derived.Test.YtlnanenfpapfkaaDoorH5P5
import Derived.WalkKit
import Derived.ProofKit
import Derived.OpenShut
import Derived.ShutString
import Derived.SizedLaws
import Derived.Deep.Slices
import Derived.Deep.Fields
import Derived.Test.YtlnanenfpapfkaaDoorH5P3
import Derived.Test.YtlnanenfpapfkaaDoorH5P4
import Derived.Test.YtlnanenfpapfkaaDoorH5P1
/- What the form's reading says of an argument that is a packet. -/
namespace Go.Proofs.YtlnanenfpapfkaaDoor
open Go.ChangeShapes Go.WideShapes Go.RowKit Go.Deep Pl
set_option linter.unusedVariables false

theorem bulk_pos {H : Type} : ∀ d : DataW H, 1 ≤ Rows.uptoBulk d
  | .lit l => by cases l <;> simp [Rows.uptoBulk]
  | .nil => by simp [Rows.uptoBulk]
  | .ptr d => by rw [Rows.uptoBulk]; omega
  | .slice a b => by rw [Rows.uptoBulk]; omega
  | .agg a => by rw [Rows.uptoBulk]; omega
  | .iface _ d => by rw [Rows.uptoBulk]; omega
  | .map e => by rw [Rows.uptoBulk]; omega
  | .held _ => by simp [Rows.uptoBulk]
theorem bulk_length {H : Type} : ∀ l : List (DataW H), l.length ≤ Rows.uptoBulkAll l
  | [] => Nat.zero_le _
  | x :: r => by
    have := bulk_length r
    have := bulk_pos x
    rw [Rows.uptoBulkAll, List.length_cons]; omega
theorem bulk_memD {H : Type} {x : DataW H} : ∀ {l : List (DataW H)}, x ∈ l → Rows.uptoBulk x ≤ Rows.uptoBulkAll l
  | y :: r, h => by
    rw [Rows.uptoBulkAll]
    rcases List.mem_cons.1 h with rfl | h
    · omega
    · have := bulk_memD h; omega
theorem cell_plain5 {w : World} {a : Addr} {v : Value} (h : w.cell? a = some v) : a.spot = none ∧ a.block < w.heap.size := by
  unfold World.cell? at h
  split at h
  · rename_i hg
    refine ⟨?_, (Array.getElem?_eq_some_iff.1 hg).1⟩
    split at h
    · cases h
    · rename_i hs; simpa using hs
  · cases h
section
variable {H : Type} {enc : TypeId × Value → H} {w : World}
/-- A slice, of whatever elements. -/
theorem open_row {α : Type} {e t k : Nat} (cells : α → List Value) (sz : α → Nat) (ok : α → Prop) (dft : α) (hk : Tryd.prog.cellsOf e = k) (hk0 : 0 < k) (hlen : ∀ r, (cells r).length = k) (ht : Tryd.prog.underlying t = some (.slice e))
    (rd : ∀ n cs' y, DataW.trod enc Tryd.prog w 0 (fun _ => true) true n e cs' = some y → ∃ r, cs' = cells r ∧ ok r ∧ sz r ≤ Rows.uptoBulk y.1) {fuel : Nat} {cs : List Value} {x : DataW H × List MemPlace} (h : DataW.trod enc Tryd.prog w 0 (fun _ => true) true fuel t cs = some x) :
    ∃ (A : Option Addr) (cap : Nat) (L : List α), cs = [.slice A L.length cap] ∧ L.length ≤ cap ∧ cap ≤ maxLen ∧ ((A = none ∧ cap = 0) ∨ ∃ a, A = some a) ∧ L.length ≤ Rows.uptoBulk x.1 ∧ (∀ r ∈ L, ok r ∧ sz r ≤ Rows.uptoBulk x.1) ∧
      (0 < L.length → ∃ b o, A = some ⟨b, o, none⟩ ∧ b < w.heap.size ∧ ∀ i r, L[i]? = some r → ∀ j u, (cells r)[j]? = some u → w.cell? ⟨b, o + i * k + j, none⟩ = some u) := by
  rcases open_slice ht h with ⟨hcs, hx⟩ | ⟨a, len, cap, m, n, D, Pc, hcs, _, hl, hm, hmm, hx, hi⟩
  · exact ⟨none, 0, [], hcs, Nat.le_refl _, Nat.zero_le _, .inl ⟨rfl, rfl⟩, Nat.zero_le _, (fun r hr => by cases hr), (fun h => absurd h (Nat.lt_irrefl 0))⟩
  · have hlm : len ≤ m := by rw [hmm]; split <;> omega
    have each : ∀ i, ∃ q : α, i < len → (∀ j u, (cells q)[j]? = some u → w.cell? ((a.add (i * k)).add j) = some u) ∧ ok q ∧ sz q ≤ Rows.uptoBulk (D i) := fun i => by
      by_cases hil : i < len
      · obtain ⟨cs', hc, ht⟩ := hi i (by omega)
        obtain ⟨q, hq, hfit, hsz⟩ := rd _ _ _ ht
        rw [hk] at hc
        obtain ⟨_, hcl, hat⟩ := World.cells?_some hc
        refine ⟨q, fun _ => ⟨fun j u hj => ?_, hfit, hsz⟩⟩
        have hj4 : j < k := by
          rw [← hlen q]; exact (List.getElem?_eq_some_iff.1 hj).1
        rw [hat j hj4, hq]
        exact hj
      · exact ⟨dft, fun h => absurd h hil⟩
    have hS := fun i => Classical.choose_spec (each i)
    have hbulk : len ≤ Rows.uptoBulk x.1 ∧ ∀ i, i < len → Rows.uptoBulk (D i) ≤ Rows.uptoBulk x.1 := by
      rw [hx]
      simp only [Rows.uptoBulk]
      have h1 := bulk_length ((List.range len).map D)
      rw [List.length_map, List.length_range] at h1
      refine ⟨by omega, fun i hi => ?_⟩
      have h2 := bulk_memD (List.mem_map.2 ⟨i, List.mem_range.2 hi, rfl⟩ : D i ∈ (List.range len).map D)
      omega
    have hLl : ((List.range len).map fun i => Classical.choose (each i)).length = len := by simp
    refine ⟨some a, cap, (List.range len).map (fun i => Classical.choose (each i)), by rw [hLl]; exact hcs, by rw [hLl]; exact hl, hm, .inr ⟨a, rfl⟩, by rw [hLl]; exact hbulk.1, fun r hr => ?_, fun hp => ?_⟩
    · obtain ⟨i, hir, rfl⟩ := List.mem_map.1 hr
      have hil := List.mem_range.1 hir
      exact ⟨(hS i hil).2.1, Nat.le_trans (hS i hil).2.2 (hbulk.2 i hil)⟩
    · rw [hLl] at hp
      obtain ⟨u0, hu0⟩ : ∃ u, (cells (Classical.choose (each 0)))[0]? = some u := ⟨_, List.getElem?_eq_getElem (by rw [hlen]; exact hk0)⟩
      have h00 := (hS 0 hp).1 0 u0 hu0
      have e0 : (a.add (0 * k)).add 0 = a := by unfold Addr.add; simp
      rw [e0] at h00
      obtain ⟨hs, hb⟩ := cell_plain5 h00
      obtain ⟨b, o, sp⟩ := a
      obtain rfl : sp = none := hs
      refine ⟨b, o, rfl, hb, fun i q hq j u hj => ?_⟩
      have hil : i < len := by have := (List.getElem?_eq_some_iff.1 hq).1; rw [hLl] at this; exact this
      rw [List.getElem?_map, List.getElem?_range hil] at hq
      obtain rfl : Classical.choose (each i) = q := by simpa using hq
      have c := (hS i hil).1 j u hj
      rw [Go.WideShapes.add_plain, Go.WideShapes.add_plain] at c
      exact c
set_option maxRecDepth 100000 in
theorem read_prop {fuel : Nat} {cs : List Value} {x : DataW H × List MemPlace} (h : DataW.trod enc Tryd.prog w 0 (fun _ => true) true fuel 98 cs = some x) : ∃ r : Pp, cs = (ppA r).toList ∧ (-9223372036854775808 ≤ r.id ∧ r.id ≤ 9223372036854775807 ∧ -9223372036854775808 ≤ r.n ∧ r.n ≤ 9223372036854775807) ∧ r.s.size + r.t.size ≤ Rows.uptoBulk x.1 := by
  have k3 : Tryd.prog.cellsOf 3 = 1 := by kernel_rfl
  have k9 : Tryd.prog.cellsOf 9 = 1 := by kernel_rfl
  have k4 : Tryd.prog.cellsOf 4 = 1 := by kernel_rfl
  obtain ⟨xs, n, _, hx, hl, hxl, hf⟩ := DataW.trod_struct Tryd.underlying98 h
  have hlc : cs.length = 4 := hl.trans (by kernel_rfl)
  match cs, hlc with
  | [v0, v1, v2, v3], _ =>
    match xs, hxl with
    | [x0, x1, x2, x3], _ =>
      have h0 : DataW.trod enc Tryd.prog w 0 (fun _ => true) true n 3 [v0] = some x0 := by simpa [k3] using hf 0 _ rfl
      have h1 : DataW.trod enc Tryd.prog w 0 (fun _ => true) true n 3 [v1] = some x1 := by simpa [k3] using hf 1 _ rfl
      have h2 : DataW.trod enc Tryd.prog w 0 (fun _ => true) true n 9 [v2] = some x2 := by simpa [k9] using hf 2 _ rfl
      have h3 : DataW.trod enc Tryd.prog w 0 (fun _ => true) true n 9 [v3] = some x3 := by simpa [k9] using hf 3 _ rfl
      obtain ⟨i0, e0, y0, z0⟩ := DataW.trod_int Tryd.underlying3 h0
      obtain ⟨i1, e1, y1, z1⟩ := DataW.trod_int Tryd.underlying3 h1
      obtain ⟨i2, e2, y2, z2⟩ := DataW.trod_string Tryd.underlying9 h2
      obtain ⟨i3, e3, y3, z3⟩ := DataW.trod_string Tryd.underlying9 h3
      simp only [List.cons.injEq, and_true] at e0 e1 e2 e3
      subst e0 e1 e2 e3
      subst y0 y1 y2 y3
      subst hx
      have b0 := i64_bd z0
      have b1 := i64_bd z1
      have l2 : i2.data.toList.length = i2.size := rfl
      have l3 : i3.data.toList.length = i3.size := rfl
      simp only [List.map_cons, List.map_nil, Rows.uptoBulk, Rows.uptoBulkAll]
      exact ⟨⟨i0, i1, i2, i3⟩, rfl, ⟨b0.1, b0.2, b1.1, b1.2⟩, by dsimp only; omega⟩
set_option maxRecDepth 100000 in
theorem read_sub {fuel : Nat} {cs : List Value} {x : DataW H × List MemPlace} (h : DataW.trod enc Tryd.prog w 0 (fun _ => true) true fuel 62 cs = some x) : ∃ r : Sb, cs = (sbA r).toList ∧ (i64B r.q ∧ i64B r.h) ∧ r.f.size ≤ Rows.uptoBulk x.1 := by
  have k3 : Tryd.prog.cellsOf 3 = 1 := by kernel_rfl
  have k9 : Tryd.prog.cellsOf 9 = 1 := by kernel_rfl
  have k4 : Tryd.prog.cellsOf 4 = 1 := by kernel_rfl
  obtain ⟨xs, n, _, hx, hl, hxl, hf⟩ := DataW.trod_struct Tryd.underlying62 h
  have hlc : cs.length = 5 := hl.trans (by kernel_rfl)
  match cs, hlc with
  | [v0, v1, v2, v3, v4], _ =>
    match xs, hxl with
    | [x0, x1, x2, x3, x4], _ =>
      have h0 : DataW.trod enc Tryd.prog w 0 (fun _ => true) true n 9 [v0] = some x0 := by simpa [k9] using hf 0 _ rfl
      have h1 : DataW.trod enc Tryd.prog w 0 (fun _ => true) true n 3 [v1] = some x1 := by simpa [k3] using hf 1 _ rfl
      have h2 : DataW.trod enc Tryd.prog w 0 (fun _ => true) true n 4 [v2] = some x2 := by simpa [k4] using hf 2 _ rfl
      have h3 : DataW.trod enc Tryd.prog w 0 (fun _ => true) true n 4 [v3] = some x3 := by simpa [k4] using hf 3 _ rfl
      have h4 : DataW.trod enc Tryd.prog w 0 (fun _ => true) true n 3 [v4] = some x4 := by simpa [k3] using hf 4 _ rfl
      obtain ⟨i0, e0, y0, z0⟩ := DataW.trod_string Tryd.underlying9 h0
      obtain ⟨i1, e1, y1, z1⟩ := DataW.trod_int Tryd.underlying3 h1
      obtain ⟨i2, e2, y2⟩ := DataW.trod_bool Tryd.underlying4 h2
      obtain ⟨i3, e3, y3⟩ := DataW.trod_bool Tryd.underlying4 h3
      obtain ⟨i4, e4, y4, z4⟩ := DataW.trod_int Tryd.underlying3 h4
      simp only [List.cons.injEq, and_true] at e0 e1 e2 e3 e4
      subst e0 e1 e2 e3 e4
      subst y0 y1 y2 y3 y4
      subst hx
      have l0 : i0.data.toList.length = i0.size := rfl
      have b1 := i64_bd z1
      have b4 := i64_bd z4
      simp only [List.map_cons, List.map_nil, Rows.uptoBulk, Rows.uptoBulkAll]
      exact ⟨⟨i0, i1, i2, i3, i4⟩, rfl, ⟨b1, b4⟩, by dsimp only; omega⟩
theorem read_byte {fuel : Nat} {cs : List Value} {x : DataW H × List MemPlace} (h : DataW.trod enc Tryd.prog w 0 (fun _ => true) true fuel 5 cs = some x) : ∃ r : Int, cs = [.int .u8 r] ∧ (0 ≤ r ∧ r ≤ 255) ∧ 0 ≤ Rows.uptoBulk x.1 := by
  obtain ⟨i, e, y, z⟩ := DataW.trod_int Tryd.underlying5 h
  refine ⟨i, e, ?_, Nat.zero_le _⟩
  simpa [Lit.wf, IntKind.min, IntKind.max, IntKind.signed, IntKind.bits] using z
theorem read_str {fuel : Nat} {cs : List Value} {x : DataW H × List MemPlace} (h : DataW.trod enc Tryd.prog w 0 (fun _ => true) true fuel 9 cs = some x) : ∃ r : ByteArray, cs = [.string r] ∧ True ∧ r.size ≤ Rows.uptoBulk x.1 := by
  obtain ⟨i, e, y, z⟩ := DataW.trod_string Tryd.underlying9 h
  subst y
  refine ⟨i, e, trivial, ?_⟩
  have l : i.data.toList.length = i.size := rfl
  simp only [Rows.uptoBulk]
  omega
end
/-- A packet, its slices, its bulk. -/
structure PkX where
  p : Pk
  m : Hs
  z : Nat
def bulkPx (x : PkX) : Nat := x.z
def PkOk (w : World) (v : Value) (x : PkX) : Prop := x.z ≤ 1048576 → v = .agg (pkA .u8 x.p x.m) ∧ PkIn .u8 w x.p x.m ∧ PkCap x.m
section
variable {H : Type} {enc : TypeId × Value → H} {w : World}
theorem prow_of {A : Option Addr} {L : List Pp} (h : 0 < L.length → ∃ b o, A = some ⟨b, o, none⟩ ∧ b < w.heap.size ∧ ∀ i r, L[i]? = some r → ∀ j u, ((ppA r).toList)[j]? = some u → w.cell? ⟨b, o + i * 4 + j, none⟩ = some u) : PRow w A L := by
  intro hp
  obtain ⟨b, o, e, hl, hc⟩ := h hp
  exact ⟨b, o, e, hl, fun i r hr => ⟨hc i r hr 0 _ rfl, hc i r hr 1 _ rfl, hc i r hr 2 _ rfl, hc i r hr 3 _ rfl⟩⟩
theorem sbrow_of {A : Option Addr} {L : List Sb} (h : 0 < L.length → ∃ b o, A = some ⟨b, o, none⟩ ∧ b < w.heap.size ∧ ∀ i r, L[i]? = some r → ∀ j u, ((sbA r).toList)[j]? = some u → w.cell? ⟨b, o + i * 5 + j, none⟩ = some u) : SbRow w A L := by
  intro hp
  obtain ⟨b, o, e, hl, hc⟩ := h hp
  exact ⟨b, o, e, hl, fun i r hr => ⟨hc i r hr 0 _ rfl, hc i r hr 1 _ rfl, hc i r hr 2 _ rfl, hc i r hr 3 _ rfl, hc i r hr 4 _ rfl⟩⟩
theorem vrow_of {α : Type} {f : α → Value} {A : Option Addr} {L : List α} (h : 0 < L.length → ∃ b o, A = some ⟨b, o, none⟩ ∧ b < w.heap.size ∧ ∀ i r, L[i]? = some r → ∀ j u, ([f r])[j]? = some u → w.cell? ⟨b, o + i * 1 + j, none⟩ = some u) : VRow w A (L.map f) := by
  intro hp
  rw [List.length_map] at hp
  obtain ⟨b, o, e, hl, hc⟩ := h hp
  refine ⟨b, o, e, hl, fun i x hx => ?_⟩
  rw [List.getElem?_map] at hx
  obtain ⟨r, hr, rfl⟩ := Option.map_eq_some_iff.1 hx
  have := hc i r hr 0 _ rfl
  rw [Nat.mul_one, Nat.add_zero] at this
  exact this
/-- A will. -/
structure RdWill (w : World) (cs : List Value) (z : Nat) (t pl : ByteArray) (q : Int) (r : Bool) (A : Option Addr) (c : Nat) (L : List Pp) : Prop where
  cells : cs = [.string t, .string pl, .int .i64 q, .bool r, .slice A L.length c]
  q : i64B q
  t : t.size ≤ z
  p : pl.size ≤ z
  lc : L.length ≤ c
  cm : c ≤ maxLen
  an : (A = none ∧ c = 0) ∨ ∃ a, A = some a
  lb : L.length ≤ z
  ok : ∀ r ∈ L, (-9223372036854775808 ≤ r.id ∧ r.id ≤ 9223372036854775807 ∧ -9223372036854775808 ≤ r.n ∧ r.n ≤ 9223372036854775807) ∧ r.s.size + r.t.size ≤ z
  row : PRow w A L
set_option maxRecDepth 100000 in
theorem read_will {fuel : Nat} {cs : List Value} {x : DataW H × List MemPlace} (h : DataW.trod enc Tryd.prog w 0 (fun _ => true) true fuel 25 cs = some x) : ∃ t pl q r A c L, RdWill w cs (Rows.uptoBulk x.1) t pl q r A c L := by
  obtain ⟨xs, n, _, hx, hl, hxl, hf⟩ := DataW.trod_struct Tryd.underlying25 h
  have hlc : cs.length = 5 := hl.trans (by kernel_rfl)
  match cs, hlc with
  | [v0, v1, v2, v3, v4], _ =>
    match xs, hxl with
    | [x0, x1, x2, x3, x4], _ =>
      have h0 : DataW.trod enc Tryd.prog w 0 (fun _ => true) true n 9 [v0] = some x0 := by simpa [show Tryd.prog.cellsOf 9 = 1 from by kernel_rfl] using hf 0 _ rfl
      have h1 : DataW.trod enc Tryd.prog w 0 (fun _ => true) true n 9 [v1] = some x1 := by simpa [show Tryd.prog.cellsOf 9 = 1 from by kernel_rfl] using hf 1 _ rfl
      have h2 : DataW.trod enc Tryd.prog w 0 (fun _ => true) true n 3 [v2] = some x2 := by simpa [show Tryd.prog.cellsOf 3 = 1 from by kernel_rfl] using hf 2 _ rfl
      have h3 : DataW.trod enc Tryd.prog w 0 (fun _ => true) true n 4 [v3] = some x3 := by simpa [show Tryd.prog.cellsOf 4 = 1 from by kernel_rfl] using hf 3 _ rfl
      have h4 : DataW.trod enc Tryd.prog w 0 (fun _ => true) true n 23 [v4] = some x4 := by simpa [show Tryd.prog.cellsOf 23 = 1 from by kernel_rfl] using hf 4 _ rfl
      obtain ⟨i0, e0, _, b0⟩ := read_str h0
      obtain ⟨i1, e1, _, b1⟩ := read_str h1
      obtain ⟨i2, e2, y2, z2⟩ := DataW.trod_int Tryd.underlying3 h2
      have b2 := i64_bd z2
      obtain ⟨i3, e3, y3⟩ := DataW.trod_bool Tryd.underlying4 h3
      obtain ⟨A4, c4, L4, e4, lc4, cm4, an4, lb4, ok4, row4⟩ := open_row (e := 98) (k := 4) (fun r : Pp => (ppA r).toList) (fun r => r.s.size + r.t.size) (fun r => -9223372036854775808 ≤ r.id ∧ r.id ≤ 9223372036854775807 ∧ -9223372036854775808 ≤ r.n ∧ r.n ≤ 9223372036854775807) ⟨0, 0, ⟨#[]⟩, ⟨#[]⟩⟩ (by kernel_rfl) (by decide) (fun _ => rfl) Tryd.underlying23 (fun n cs y h => read_prop h) h4
      simp only [List.cons.injEq, and_true] at e0 e1 e2 e3 e4
      subst e0 e1 e2 e3 e4
      have hb : ∀ y ∈ [x0, x1, x2, x3, x4], Rows.uptoBulk y.1 ≤ Rows.uptoBulk x.1 := by
        intro y hy
        rw [show x = (.agg ([x0, x1, x2, x3, x4].map (·.1)), x.2) from by rw [hx]]
        simp only [Rows.uptoBulk]
        have := bulk_memD (List.mem_map.2 ⟨y, hy, rfl⟩ : y.1 ∈ [x0, x1, x2, x3, x4].map (·.1))
        omega
      have q0 := hb x0 (by simp)
      have q1 := hb x1 (by simp)
      have q4 := hb x4 (by simp)
      exact ⟨i0, i1, i2, i3, A4, c4, L4, rfl, b2, by omega, by omega, lc4, cm4, an4, by omega, fun r hr => ⟨(ok4 r hr).1, by have := (ok4 r hr).2; omega⟩, prow_of row4⟩
set_option maxRecDepth 100000 in
set_option maxHeartbeats 4000000 in
theorem open_pk_arg {v : Value} {d : DataW H} {pl : List MemPlace} {r : Reach} {b0 : Nat} (hv : Value.okWide Tryd.prog w r b0 29 v) (h : DataW.Trod enc Tryd.prog w 0 (fun _ => true) true 29 v d pl) :
    ∃ x : PkX, PkOk w v x ∧ bulkPx x ≤ Rows.uptoBulk d := by
  obtain ⟨fuel, hf0⟩ := h
  obtain ⟨csA, rfl, _⟩ := okWide_struct Tryd.underlying29 hv
  obtain ⟨cs⟩ := csA
  have hf1 : DataW.trod enc Tryd.prog w 0 (fun _ => true) true fuel 29 cs = some (d, pl) := hf0
  obtain ⟨xs, n, _, hx, hl, hxl, hf⟩ := DataW.trod_struct Tryd.underlying29 hf1
  have hlc : cs.length = 26 := hl.trans (by kernel_rfl)
  match cs, hlc with
  | [v0, v1, v2, v3, v4, v5, v6, v7, v8, v9, v10, v11, v12, v13, v14, v15, v16, v17, v18, v19, v20, v21, v22, v23, v24, v25], _ =>
    match xs, hxl with
    | [x0, x1, x2, x3, x4, x5, x6, x7, x8, x9, x10, x11, x12, x13, x14, x15, x16, x17, x18, x19, x20, x21], _ =>
      have h0 : DataW.trod enc Tryd.prog w 0 (fun _ => true) true n 3 [v0] = some x0 := by simpa [show Tryd.prog.cellsOf 3 = 1 from by kernel_rfl] using hf 0 _ rfl
      have h1 : DataW.trod enc Tryd.prog w 0 (fun _ => true) true n 4 [v1] = some x1 := by simpa [show Tryd.prog.cellsOf 4 = 1 from by kernel_rfl] using hf 1 _ rfl
      have h2 : DataW.trod enc Tryd.prog w 0 (fun _ => true) true n 4 [v2] = some x2 := by simpa [show Tryd.prog.cellsOf 4 = 1 from by kernel_rfl] using hf 2 _ rfl
      have h3 : DataW.trod enc Tryd.prog w 0 (fun _ => true) true n 3 [v3] = some x3 := by simpa [show Tryd.prog.cellsOf 3 = 1 from by kernel_rfl] using hf 3 _ rfl
      have h4 : DataW.trod enc Tryd.prog w 0 (fun _ => true) true n 3 [v4] = some x4 := by simpa [show Tryd.prog.cellsOf 3 = 1 from by kernel_rfl] using hf 4 _ rfl
      have h5 : DataW.trod enc Tryd.prog w 0 (fun _ => true) true n 9 [v5] = some x5 := by simpa [show Tryd.prog.cellsOf 9 = 1 from by kernel_rfl] using hf 5 _ rfl
      have h6 : DataW.trod enc Tryd.prog w 0 (fun _ => true) true n 9 [v6] = some x6 := by simpa [show Tryd.prog.cellsOf 9 = 1 from by kernel_rfl] using hf 6 _ rfl
      have h7 : DataW.trod enc Tryd.prog w 0 (fun _ => true) true n 5 [v7] = some x7 := by simpa [show Tryd.prog.cellsOf 5 = 1 from by kernel_rfl] using hf 7 _ rfl
      have h8 : DataW.trod enc Tryd.prog w 0 (fun _ => true) true n 22 [v8] = some x8 := by simpa [show Tryd.prog.cellsOf 22 = 1 from by kernel_rfl] using hf 8 _ rfl
      have h9 : DataW.trod enc Tryd.prog w 0 (fun _ => true) true n 23 [v9] = some x9 := by simpa [show Tryd.prog.cellsOf 23 = 1 from by kernel_rfl] using hf 9 _ rfl
      have h10 : DataW.trod enc Tryd.prog w 0 (fun _ => true) true n 9 [v10] = some x10 := by simpa [show Tryd.prog.cellsOf 9 = 1 from by kernel_rfl] using hf 10 _ rfl
      have h11 : DataW.trod enc Tryd.prog w 0 (fun _ => true) true n 4 [v11] = some x11 := by simpa [show Tryd.prog.cellsOf 4 = 1 from by kernel_rfl] using hf 11 _ rfl
      have h12 : DataW.trod enc Tryd.prog w 0 (fun _ => true) true n 3 [v12] = some x12 := by simpa [show Tryd.prog.cellsOf 3 = 1 from by kernel_rfl] using hf 12 _ rfl
      have h13 : DataW.trod enc Tryd.prog w 0 (fun _ => true) true n 4 [v13] = some x13 := by simpa [show Tryd.prog.cellsOf 4 = 1 from by kernel_rfl] using hf 13 _ rfl
      have h14 : DataW.trod enc Tryd.prog w 0 (fun _ => true) true n 25 [v14, v15, v16, v17, v18] = some x14 := by simpa [show Tryd.prog.cellsOf 25 = 5 from by kernel_rfl] using hf 14 _ rfl
      have h15 : DataW.trod enc Tryd.prog w 0 (fun _ => true) true n 4 [v19] = some x15 := by simpa [show Tryd.prog.cellsOf 4 = 1 from by kernel_rfl] using hf 15 _ rfl
      have h16 : DataW.trod enc Tryd.prog w 0 (fun _ => true) true n 4 [v20] = some x16 := by simpa [show Tryd.prog.cellsOf 4 = 1 from by kernel_rfl] using hf 16 _ rfl
      have h17 : DataW.trod enc Tryd.prog w 0 (fun _ => true) true n 9 [v21] = some x17 := by simpa [show Tryd.prog.cellsOf 9 = 1 from by kernel_rfl] using hf 17 _ rfl
      have h18 : DataW.trod enc Tryd.prog w 0 (fun _ => true) true n 9 [v22] = some x18 := by simpa [show Tryd.prog.cellsOf 9 = 1 from by kernel_rfl] using hf 18 _ rfl
      have h19 : DataW.trod enc Tryd.prog w 0 (fun _ => true) true n 4 [v23] = some x19 := by simpa [show Tryd.prog.cellsOf 4 = 1 from by kernel_rfl] using hf 19 _ rfl
      have h20 : DataW.trod enc Tryd.prog w 0 (fun _ => true) true n 26 [v24] = some x20 := by simpa [show Tryd.prog.cellsOf 26 = 1 from by kernel_rfl] using hf 20 _ rfl
      have h21 : DataW.trod enc Tryd.prog w 0 (fun _ => true) true n 27 [v25] = some x21 := by simpa [show Tryd.prog.cellsOf 27 = 1 from by kernel_rfl] using hf 21 _ rfl
      obtain ⟨i0, e0, y0, z0⟩ := DataW.trod_int Tryd.underlying3 h0
      have b0 := i64_bd z0
      obtain ⟨i1, e1, y1⟩ := DataW.trod_bool Tryd.underlying4 h1
      obtain ⟨i2, e2, y2⟩ := DataW.trod_bool Tryd.underlying4 h2
      obtain ⟨i3, e3, y3, z3⟩ := DataW.trod_int Tryd.underlying3 h3
      have b3 := i64_bd z3
      obtain ⟨i4, e4, y4, z4⟩ := DataW.trod_int Tryd.underlying3 h4
      have b4 := i64_bd z4
      obtain ⟨i5, e5, _, b5⟩ := read_str h5
      obtain ⟨i6, e6, _, b6⟩ := read_str h6
      obtain ⟨i7, e7, b7, _⟩ := read_byte h7
      obtain ⟨A8, c8, L8, e8, lc8, cm8, an8, lb8, ok8, row8⟩ := open_row (e := 5) (k := 1) (fun r : Int => [Value.int .u8 r]) (fun _ => 0) (fun r => 0 ≤ r ∧ r ≤ 255) 0 (by kernel_rfl) (by decide) (fun _ => rfl) Tryd.underlying22 (fun n cs y h => read_byte h) h8
      obtain ⟨A9, c9, L9, e9, lc9, cm9, an9, lb9, ok9, row9⟩ := open_row (e := 98) (k := 4) (fun r : Pp => (ppA r).toList) (fun r => r.s.size + r.t.size) (fun r => -9223372036854775808 ≤ r.id ∧ r.id ≤ 9223372036854775807 ∧ -9223372036854775808 ≤ r.n ∧ r.n ≤ 9223372036854775807) ⟨0, 0, ⟨#[]⟩, ⟨#[]⟩⟩ (by kernel_rfl) (by decide) (fun _ => rfl) Tryd.underlying23 (fun n cs y h => read_prop h) h9
      obtain ⟨i10, e10, _, b10⟩ := read_str h10
      obtain ⟨i11, e11, y11⟩ := DataW.trod_bool Tryd.underlying4 h11
      obtain ⟨i12, e12, y12, z12⟩ := DataW.trod_int Tryd.underlying3 h12
      have b12 := i64_bd z12
      obtain ⟨i13, e13, y13⟩ := DataW.trod_bool Tryd.underlying4 h13
      obtain ⟨wt, wp, wq, wr, wA, wc, wL, hwill⟩ := read_will h14
      have e14 := hwill.cells
      obtain ⟨i15, e15, y15⟩ := DataW.trod_bool Tryd.underlying4 h15
      obtain ⟨i16, e16, y16⟩ := DataW.trod_bool Tryd.underlying4 h16
      obtain ⟨i17, e17, _, b17⟩ := read_str h17
      obtain ⟨i18, e18, _, b18⟩ := read_str h18
      obtain ⟨i19, e19, y19⟩ := DataW.trod_bool Tryd.underlying4 h19
      obtain ⟨A20, c20, L20, e20, lc20, cm20, an20, lb20, ok20, row20⟩ := open_row (e := 62) (k := 5) (fun r : Sb => (sbA r).toList) (fun r => r.f.size) (fun r => i64B r.q ∧ i64B r.h) ⟨⟨#[]⟩, 0, false, false, 0⟩ (by kernel_rfl) (by decide) (fun _ => rfl) Tryd.underlying26 (fun n cs y h => read_sub h) h20
      obtain ⟨A21, c21, L21, e21, lc21, cm21, an21, lb21, ok21, row21⟩ := open_row (e := 9) (k := 1) (fun r : ByteArray => [Value.string r]) (fun r => r.size) (fun _ => True) ⟨#[]⟩ (by kernel_rfl) (by decide) (fun _ => rfl) Tryd.underlying27 (fun n cs y h => read_str h) h21
      simp only [List.cons.injEq, and_true] at e0 e1 e2 e3 e4 e5 e6 e7 e8 e9 e10 e11 e12 e13 e14 e15 e16 e17 e18 e19 e20 e21
      subst e0
      subst e1
      subst e2
      subst e3
      subst e4
      subst e5
      subst e6
      subst e7
      subst e8
      subst e9
      subst e10
      subst e11
      subst e12
      subst e13
      obtain ⟨rfl, rfl, rfl, rfl, rfl⟩ := e14
      subst e15
      subst e16
      subst e17
      subst e18
      subst e19
      subst e20
      subst e21
      have hb : ∀ y ∈ [x0, x1, x2, x3, x4, x5, x6, x7, x8, x9, x10, x11, x12, x13, x14, x15, x16, x17, x18, x19, x20, x21], Rows.uptoBulk y.1 ≤ Rows.uptoBulk d := by
        intro y hy
        have hd : d = .agg ([x0, x1, x2, x3, x4, x5, x6, x7, x8, x9, x10, x11, x12, x13, x14, x15, x16, x17, x18, x19, x20, x21].map (·.1)) := by injection hx
        rw [hd]
        simp only [Rows.uptoBulk]
        have := bulk_memD (List.mem_map.2 ⟨y, hy, rfl⟩ : y.1 ∈ [x0, x1, x2, x3, x4, x5, x6, x7, x8, x9, x10, x11, x12, x13, x14, x15, x16, x17, x18, x19, x20, x21].map (·.1))
        omega
      have q5 := hb x5 (by simp)
      have q6 := hb x6 (by simp)
      have q8 := hb x8 (by simp)
      have q9 := hb x9 (by simp)
      have q10 := hb x10 (by simp)
      have q14 := hb x14 (by simp)
      have q17 := hb x17 (by simp)
      have q18 := hb x18 (by simp)
      have q20 := hb x20 (by simp)
      have q21 := hb x21 (by simp)
      refine ⟨⟨⟨i0, i1, i2, i3, i4, i5, i6, i7, L8, L9, i10, i11, i12, i13, wt, wp, wq, wr, wL, i15, i16, i17, i18, i19, L20, L21⟩, ⟨⟨A8, L8.length, c8⟩, ⟨A9, L9.length, c9⟩, ⟨wA, wL.length, wc⟩, ⟨A20, L20.length, c20⟩, ⟨A21, L21.length, c21⟩⟩, Rows.uptoBulk d⟩, fun hz => ⟨rfl, ⟨?_, rfl, lc9, prow_of row9, rfl, hwill.lc, hwill.row, rfl, lc8, vrow_of row8, rfl, lc20, sbrow_of row20, rfl, lc21, vrow_of row21, an20, an21⟩, ⟨cm8, an8, cm9, an9, hwill.cm, hwill.an, cm20, cm21⟩⟩, Nat.le_refl _⟩
      dsimp only at hz
      have hp := hwill.p
      have ht := hwill.t
      have hlb := hwill.lb
      exact ⟨b0, b3, b4, b12, hwill.q, b7, by dsimp only; omega, by dsimp only; omega, by dsimp only; omega, by dsimp only; omega, by dsimp only; omega, by dsimp only; omega, by dsimp only; omega, ⟨by dsimp only; omega, fun r hr => by have := ok9 r hr; exact ⟨by omega, by omega, this.1.1, this.1.2.1, this.1.2.2.1, this.1.2.2.2⟩⟩, ⟨by dsimp only; omega, fun r hr => by have := hwill.ok r hr; exact ⟨by omega, by omega, this.1.1, this.1.2.1, this.1.2.2.1, this.1.2.2.2⟩⟩, ⟨by dsimp only; omega, fun r hr => (ok8 r hr).1⟩, ⟨by dsimp only; omega, fun r hr => by have := ok20 r hr; exact ⟨by omega, this.1.1, this.1.2⟩⟩, ⟨by dsimp only; omega, fun r hr => by have := ok21 r hr; omega⟩⟩
end
end Go.Proofs.YtlnanenfpapfkaaDoor

/- The walks of both Get functions. -/
namespace Go.Proofs.YtlnanenfpapfkaaDoor
open Go.RowKit Pl
open Go.PlainAid (bt bt_nonneg bt_le get_bt bt_end)

/-- What the three results of a reading are, as values. -/
theorem ret_get {k : IntKind} {p : Int × Int × Int} {x y z : Int} (h : p = (x, y, z)) :
    Ending.returned (.tuple #[.int .i64 x, .int .i64 y, .int k z]) = .returned (.tuple #[.int .i64 p.1, .int .i64 p.2.1, .int k p.2.2]) := by rw [h]

set_option maxHeartbeats 1000000 in
theorem get_in (s : ByteArray) (a : Nat) (w : World) (hs : s.size ≤ 140737488351232) (ha : a ≤ s.size) :
    Calls Tryd.prog 29 #[.string s, .int .i64 a] w fun e w' => e = .returned (.tuple #[.int .i64 (gi s 4 0 0 a).1, .int .i64 (gi s 4 0 0 a).2.1, .int .u8 (gi s 4 0 0 a).2.2]) ∧ w = w' := by
  have hbt := get_bt s
  go_enter Tryd.func29, Tryd.ntmps29
  go_wp2
  go_loop [18, 7] (fun i v => ∃ (k : Nat) (n : Int), i = .int .i64 k ∧ v = .int .i64 n ∧ k ≤ 4 ∧ 0 ≤ n ∧ n < 128 ^ k ∧ gi s 4 0 0 a = gi s (4 - k) k n (a + k)) (fun i _ => (4 - intOf i).toNat)
  case atStart => exact ⟨0, 0, rfl, rfl, by omega, by omega, by decide, rfl⟩
  case round =>
    obtain ⟨k, n, rfl, rfl, hk, hn0, hn1', hv'⟩ := hrel
    have hv := Lib.hid hv'
    clear hv'
    by_cases h4 : k = 4
    · subst h4
      clear hn1'
      go_wp2
      go_ret3
      exact ⟨ret_get (hv.out.trans gi_zero), rfl⟩
    · by_cases he : s.size ≤ a + k
      · have hg := Lib.hid (hv.out.trans (show gi s (4 - k) k n (a + k) = (0, 0, 242) by obtain ⟨f, hf⟩ : ∃ f, 4 - k = f + 1 := ⟨3 - k, by omega⟩; rw [hf]; exact gi_end he))
        clear hn1'
        go_wp2
        go_ret3
        exact ⟨ret_get hg.out, rfl⟩
      · have hn1 := Lib.hid hn1'
        clear hn1'
        obtain rfl | rfl | rfl | rfl : k = 0 ∨ k = 1 ∨ k = 2 ∨ k = 3 := by omega
        · obtain ⟨b, hB⟩ : ∃ b, bt s (a) = b := ⟨_, rfl⟩
          have hb0 : 0 ≤ b := by rw [← hB]; exact bt_nonneg s _
          have hb1 : b ≤ 255 := by rw [← hB]; exact bt_le s _
          obtain ⟨c, hc⟩ : ∃ c, c = b % 128 := ⟨_, rfl⟩
          have hc0 : 0 ≤ c := by omega
          have hc1 : c < 128 := by omega
          have hn2 : n < 1 := by have := hn1.out; simpa using this
          obtain ⟨m, hm⟩ : ∃ m, m = n + c := ⟨_, rfl⟩
          have hm0 : 0 ≤ m := by omega
          have hm1 : m < 128 := by omega
          have hand : bits .and .i64 b 127 = c := by rw [and_127 hb0 (by omega)]; exact hc.symm
          have hor : bits .or .i64 n (c) = m := by
            rw [hm, show c = 2 ^ 0 * c from by omega]
            exact or_add 0 hn0 (by simpa using hn2) hc0 (by omega)
          have Hc := Lib.hid hc
          have Hm := Lib.hid hm
          clear hc hm
          by_cases hl : b < 128
          · have Hcb := Lib.hid (show c = b by have := Hc.out; omega)
            by_cases hz : 0 < 0 ∧ b = 0
            · have hbad := Lib.hid (hv.out.trans (gi_long (f := 3 - 0) (k := 0) (n := n) he (by rw [show bt s (a + 0) = b from hB]; exact hl) (by rw [show bt s (a + 0) = b from hB]; exact hz)))
              have Hz := Lib.hid hz
              clear hz
              exfalso
              have := Hz.out
              omega
            · have hgo := Lib.hid (hv.out.trans (gi_last (f := 3 - 0) (k := 0) (n := n) he (by rw [show bt s (a + 0) = b from hB]; exact hl) (by rw [show bt s (a + 0) = b from hB]; exact hz)))
              have Hz := Lib.hid hz
              clear hz
              have hsz : Hid (sz m = 0 + 1) := Lib.hid (by have := Hm.out; have := Hcb.out; have := Hz.out; exact sz_exact (k := 0) hm0 (by simp; omega) (by first | omega | (simp; done) | (simp; omega)) (by omega))
              have hne : (sz m != 1) = false := by rw [hsz.out]; rfl
              go_wp2_with fail
              refine (size_any m _).mono ?_
              rintro e w' ⟨rfl, rfl⟩
              go_wp2
              go_ret3
              exact ⟨ret_get (by rw [hgo.out, show bt s (a + 0) = b from hB, Hm.out, Hcb.out]; simp), rfl⟩
          · have hgo := Lib.hid (hv.out.trans (gi_more (f := 3 - 0) (k := 0) (n := n) he (by rw [show bt s (a + 0) = b from hB]; omega)))
            go_wp2
            go_round
            case rel => exact ⟨0 + 1, m, by go_num, rfl, by omega, hm0, by simpa using hm1, by rw [hgo.out, show bt s (a + 0) = b from hB, ← Hc.out, Hm.out]; simp⟩
            case measure => first | (simp [intOf]; done) | (simp [intOf]; omega)
        · obtain ⟨b, hB⟩ : ∃ b, bt s (a + 1) = b := ⟨_, rfl⟩
          have hb0 : 0 ≤ b := by rw [← hB]; exact bt_nonneg s _
          have hb1 : b ≤ 255 := by rw [← hB]; exact bt_le s _
          obtain ⟨c, hc⟩ : ∃ c, c = b % 128 := ⟨_, rfl⟩
          have hc0 : 0 ≤ c := by omega
          have hc1 : c < 128 := by omega
          have hn2 : n < 128 := by have := hn1.out; simpa using this
          obtain ⟨m, hm⟩ : ∃ m, m = n + c * 128 := ⟨_, rfl⟩
          have hm0 : 0 ≤ m := by omega
          have hm1 : m < 16384 := by omega
          have hand : bits .and .i64 b 127 = c := by rw [and_127 hb0 (by omega)]; exact hc.symm
          have hor : bits .or .i64 n (c * 128) = m := by
            rw [hm, show c * 128 = 2 ^ 7 * c from by omega]
            exact or_add 7 hn0 (by simpa using hn2) hc0 (by omega)
          have Hc := Lib.hid hc
          have Hm := Lib.hid hm
          clear hc hm
          by_cases hl : b < 128
          · have Hcb := Lib.hid (show c = b by have := Hc.out; omega)
            by_cases hz : 0 < 1 ∧ b = 0
            · have hbad := Lib.hid (hv.out.trans (gi_long (f := 3 - 1) (k := 1) (n := n) he (by rw [show bt s (a + 1) = b from hB]; exact hl) (by rw [show bt s (a + 1) = b from hB]; exact hz)))
              have Hz := Lib.hid hz
              clear hz
              have hsz : Hid (sz m ≠ 1 + 1) := Lib.hid (by have := Hm.out; have := Hcb.out; have := Hz.out; have := sz_small (n := m) (k := 1) hm0 (by simp; omega) (by omega); omega)
              have hne : (sz m != 2) = true := by have := hsz.out; simpa using this
              go_wp2_with fail
              refine (size_any m _).mono ?_
              rintro e w' ⟨rfl, rfl⟩
              go_wp2
              go_ret3
              exact ⟨ret_get hbad.out, rfl⟩
            · have hgo := Lib.hid (hv.out.trans (gi_last (f := 3 - 1) (k := 1) (n := n) he (by rw [show bt s (a + 1) = b from hB]; exact hl) (by rw [show bt s (a + 1) = b from hB]; exact hz)))
              have Hz := Lib.hid hz
              clear hz
              have hsz : Hid (sz m = 1 + 1) := Lib.hid (by have := Hm.out; have := Hcb.out; have := Hz.out; exact sz_exact (k := 1) hm0 (by simp; omega) (by first | omega | (simp; done) | (simp; omega)) (by omega))
              have hne : (sz m != 2) = false := by rw [hsz.out]; rfl
              go_wp2_with fail
              refine (size_any m _).mono ?_
              rintro e w' ⟨rfl, rfl⟩
              go_wp2
              go_ret3
              exact ⟨ret_get (by rw [hgo.out, show bt s (a + 1) = b from hB, Hm.out, Hcb.out]; simp), rfl⟩
          · have hgo := Lib.hid (hv.out.trans (gi_more (f := 3 - 1) (k := 1) (n := n) he (by rw [show bt s (a + 1) = b from hB]; omega)))
            go_wp2
            go_round
            case rel => exact ⟨1 + 1, m, by go_num, rfl, by omega, hm0, by simpa using hm1, by rw [hgo.out, show bt s (a + 1) = b from hB, ← Hc.out, Hm.out]; simp⟩
            case measure => first | (simp [intOf]; done) | (simp [intOf]; omega)
        · obtain ⟨b, hB⟩ : ∃ b, bt s (a + 2) = b := ⟨_, rfl⟩
          have hb0 : 0 ≤ b := by rw [← hB]; exact bt_nonneg s _
          have hb1 : b ≤ 255 := by rw [← hB]; exact bt_le s _
          obtain ⟨c, hc⟩ : ∃ c, c = b % 128 := ⟨_, rfl⟩
          have hc0 : 0 ≤ c := by omega
          have hc1 : c < 128 := by omega
          have hn2 : n < 16384 := by have := hn1.out; simpa using this
          obtain ⟨m, hm⟩ : ∃ m, m = n + c * 16384 := ⟨_, rfl⟩
          have hm0 : 0 ≤ m := by omega
          have hm1 : m < 2097152 := by omega
          have hand : bits .and .i64 b 127 = c := by rw [and_127 hb0 (by omega)]; exact hc.symm
          have hor : bits .or .i64 n (c * 16384) = m := by
            rw [hm, show c * 16384 = 2 ^ 14 * c from by omega]
            exact or_add 14 hn0 (by simpa using hn2) hc0 (by omega)
          have Hc := Lib.hid hc
          have Hm := Lib.hid hm
          clear hc hm
          by_cases hl : b < 128
          · have Hcb := Lib.hid (show c = b by have := Hc.out; omega)
            by_cases hz : 0 < 2 ∧ b = 0
            · have hbad := Lib.hid (hv.out.trans (gi_long (f := 3 - 2) (k := 2) (n := n) he (by rw [show bt s (a + 2) = b from hB]; exact hl) (by rw [show bt s (a + 2) = b from hB]; exact hz)))
              have Hz := Lib.hid hz
              clear hz
              have hsz : Hid (sz m ≠ 2 + 1) := Lib.hid (by have := Hm.out; have := Hcb.out; have := Hz.out; have := sz_small (n := m) (k := 2) hm0 (by simp; omega) (by omega); omega)
              have hne : (sz m != 3) = true := by have := hsz.out; simpa using this
              go_wp2_with fail
              refine (size_any m _).mono ?_
              rintro e w' ⟨rfl, rfl⟩
              go_wp2
              go_ret3
              exact ⟨ret_get hbad.out, rfl⟩
            · have hgo := Lib.hid (hv.out.trans (gi_last (f := 3 - 2) (k := 2) (n := n) he (by rw [show bt s (a + 2) = b from hB]; exact hl) (by rw [show bt s (a + 2) = b from hB]; exact hz)))
              have Hz := Lib.hid hz
              clear hz
              have hsz : Hid (sz m = 2 + 1) := Lib.hid (by have := Hm.out; have := Hcb.out; have := Hz.out; exact sz_exact (k := 2) hm0 (by simp; omega) (by first | omega | (simp; done) | (simp; omega)) (by omega))
              have hne : (sz m != 3) = false := by rw [hsz.out]; rfl
              go_wp2_with fail
              refine (size_any m _).mono ?_
              rintro e w' ⟨rfl, rfl⟩
              go_wp2
              go_ret3
              exact ⟨ret_get (by rw [hgo.out, show bt s (a + 2) = b from hB, Hm.out, Hcb.out]; simp), rfl⟩
          · have hgo := Lib.hid (hv.out.trans (gi_more (f := 3 - 2) (k := 2) (n := n) he (by rw [show bt s (a + 2) = b from hB]; omega)))
            go_wp2
            go_round
            case rel => exact ⟨2 + 1, m, by go_num, rfl, by omega, hm0, by simpa using hm1, by rw [hgo.out, show bt s (a + 2) = b from hB, ← Hc.out, Hm.out]; simp⟩
            case measure => first | (simp [intOf]; done) | (simp [intOf]; omega)
        · obtain ⟨b, hB⟩ : ∃ b, bt s (a + 3) = b := ⟨_, rfl⟩
          have hb0 : 0 ≤ b := by rw [← hB]; exact bt_nonneg s _
          have hb1 : b ≤ 255 := by rw [← hB]; exact bt_le s _
          obtain ⟨c, hc⟩ : ∃ c, c = b % 128 := ⟨_, rfl⟩
          have hc0 : 0 ≤ c := by omega
          have hc1 : c < 128 := by omega
          have hn2 : n < 2097152 := by have := hn1.out; simpa using this
          obtain ⟨m, hm⟩ : ∃ m, m = n + c * 2097152 := ⟨_, rfl⟩
          have hm0 : 0 ≤ m := by omega
          have hm1 : m < 268435456 := by omega
          have hand : bits .and .i64 b 127 = c := by rw [and_127 hb0 (by omega)]; exact hc.symm
          have hor : bits .or .i64 n (c * 2097152) = m := by
            rw [hm, show c * 2097152 = 2 ^ 21 * c from by omega]
            exact or_add 21 hn0 (by simpa using hn2) hc0 (by omega)
          have Hc := Lib.hid hc
          have Hm := Lib.hid hm
          clear hc hm
          by_cases hl : b < 128
          · have Hcb := Lib.hid (show c = b by have := Hc.out; omega)
            by_cases hz : 0 < 3 ∧ b = 0
            · have hbad := Lib.hid (hv.out.trans (gi_long (f := 3 - 3) (k := 3) (n := n) he (by rw [show bt s (a + 3) = b from hB]; exact hl) (by rw [show bt s (a + 3) = b from hB]; exact hz)))
              have Hz := Lib.hid hz
              clear hz
              have hsz : Hid (sz m ≠ 3 + 1) := Lib.hid (by have := Hm.out; have := Hcb.out; have := Hz.out; have := sz_small (n := m) (k := 3) hm0 (by simp; omega) (by omega); omega)
              have hne : (sz m != 4) = true := by have := hsz.out; simpa using this
              go_wp2_with fail
              refine (size_any m _).mono ?_
              rintro e w' ⟨rfl, rfl⟩
              go_wp2
              go_ret3
              exact ⟨ret_get hbad.out, rfl⟩
            · have hgo := Lib.hid (hv.out.trans (gi_last (f := 3 - 3) (k := 3) (n := n) he (by rw [show bt s (a + 3) = b from hB]; exact hl) (by rw [show bt s (a + 3) = b from hB]; exact hz)))
              have Hz := Lib.hid hz
              clear hz
              have hsz : Hid (sz m = 3 + 1) := Lib.hid (by have := Hm.out; have := Hcb.out; have := Hz.out; exact sz_exact (k := 3) hm0 (by simp; omega) (by first | omega | (simp; done) | (simp; omega)) (by omega))
              have hne : (sz m != 4) = false := by rw [hsz.out]; rfl
              go_wp2_with fail
              refine (size_any m _).mono ?_
              rintro e w' ⟨rfl, rfl⟩
              go_wp2
              go_ret3
              exact ⟨ret_get (by rw [hgo.out, show bt s (a + 3) = b from hB, Hm.out, Hcb.out]; simp), rfl⟩
          · have hgo := Lib.hid (hv.out.trans (gi_more (f := 3 - 3) (k := 3) (n := n) he (by rw [show bt s (a + 3) = b from hB]; omega)))
            go_wp2
            go_round
            case rel => exact ⟨3 + 1, m, by go_num, rfl, by omega, hm0, by simpa using hm1, by rw [hgo.out, show bt s (a + 3) = b from hB, ← Hc.out, Hm.out]; simp⟩
            case measure => first | (simp [intOf]; done) | (simp [intOf]; omega)

theorem get_all (s : ByteArray) (at_ : Int) (w : World) (hs : s.size ≤ 140737488351232) (h0 : -9223372036854775808 ≤ at_) (h1 : at_ ≤ 9223372036854775807) :
    Calls Tryd.prog 29 #[.string s, .int .i64 at_] w fun e w' => e = .returned (.tuple #[.int .i64 (getV s at_).1, .int .i64 (getV s at_).2.1, .int .u8 (getV s at_).2.2]) ∧ w = w' := by
  by_cases hb : at_ < 0 ∨ (s.size : Int) < at_
  · have hg := Lib.hid (getV_bad hb)
    go_enter Tryd.func29, Tryd.ntmps29
    go_wp2
    all_goals go_ret3
    all_goals exact ⟨ret_get hg.out, rfl⟩
  · obtain ⟨a, rfl⟩ := Int.eq_ofNat_of_zero_le (show 0 ≤ at_ by omega)
    rw [getV_ok (show a ≤ s.size by omega)]
    exact get_in s a w hs (by omega)

end Go.Proofs.YtlnanenfpapfkaaDoor

/- The properties at a place: plain. -/
namespace Go.Proofs.YtlnanenfpapfkaaDoor
set_option linter.unusedVariables false
open Go.RowKit Pl

def noS : ByteArray := ⟨#[]⟩
/-- The value of a property at a place: the property, the place behind it; none: it isn't there. -/
def rdv (s : ByteArray) (id : Int) (a : Int) : Option (Pp × Int) :=
  if kindOf id = 4 then (if (getV s a).2.2 = 0 then some (⟨id, (getV s a).1, noS, noS⟩, (getV s a).2.1) else none)
  else if kindOf id = 5 then (if (getD s a).2.2 = 0 then some (⟨id, 0, (getD s a).1, noS⟩, (getD s a).2.1) else none)
  else if kindOf id = 6 then (if (tget s a).2.2 = 0 then some (⟨id, 0, (tget s a).1, noS⟩, (tget s a).2.1) else none)
  else if kindOf id = 7 then (if (tget s a).2.2 = 0 then (if (tget s (tget s a).2.1).2.2 = 0 then some (⟨id, 0, (tget s a).1, (tget s (tget s a).2.1).1⟩, (tget s (tget s a).2.1).2.1) else none) else none)
  else (if (getF s a (wid (kindOf id))).2.2 = 0 then some (⟨id, (getF s a (wid (kindOf id))).1, noS, noS⟩, (getF s a (wid (kindOf id))).2.1) else none)
def dupL (L : List Pp) (id : Int) : Bool := L.any (fun p => p.id == id) && (id != 38)
/-- The rest of the properties, behind those that have been read. -/
def pgs (s : ByteArray) : Nat → List Pp → Int → List Pp × Int
  | 0, L, _ => (L, 0)
  | f + 1, L, a =>
    if (s.size : Int) ≤ a then (L, 0) else if 64 ≤ L.length then ([], 149)
    else if (getV s a).2.2 ≠ 0 ∨ kindOf (getV s a).1 = 0 then ([], 129)
    else if dupL L (getV s a).1 = true then ([], 130)
    else match rdv s (getV s a).1 (getV s a).2.1 with
      | none => ([], 129)
      | some (p, to) => pgs s f (L ++ [p]) to
def getP (s : ByteArray) (at_ : Int) : List Pp × Int × Int :=
  if (getV s at_).2.2 ≠ 0 then ([], 0, (getV s at_).2.2)
  else if (s.size : Int) - (getV s at_).2.1 < (getV s at_).1 then ([], 0, 242)
  else
    let r := pgs (s.extract (getV s at_).2.1.toNat ((getV s at_).2.1.toNat + (getV s at_).1.toNat)) 66 [] 0
    if r.2 ≠ 0 then ([], 0, r.2) else (r.1, (getV s at_).2.1 + (getV s at_).1, 0)
theorem pgs_end {s : ByteArray} {f : Nat} {L : List Pp} {a : Int} (h : (s.size : Int) ≤ a) : pgs s f L a = (L, 0) := by
  cases f with
  | zero => rfl
  | succ f => unfold pgs; rw [if_pos h]
theorem pgs_full {s : ByteArray} {f : Nat} {L : List Pp} {a : Int} (h : ¬ (s.size : Int) ≤ a) (h1 : 64 ≤ L.length) : pgs s (f + 1) L a = ([], 149) := by
  unfold pgs; rw [if_neg h, if_pos h1]
theorem pgs_bad {s : ByteArray} {f : Nat} {L : List Pp} {a id nx d : Int} (h : ¬ (s.size : Int) ≤ a) (h1 : ¬ 64 ≤ L.length) (hg : getV s a = (id, nx, d)) (h2 : d ≠ 0 ∨ kindOf id = 0) : pgs s (f + 1) L a = ([], 129) := by
  unfold pgs; rw [if_neg h, if_neg h1, hg, if_pos h2]
theorem pgs_dup {s : ByteArray} {f : Nat} {L : List Pp} {a id nx : Int} (h : ¬ (s.size : Int) ≤ a) (h1 : ¬ 64 ≤ L.length) (hg : getV s a = (id, nx, 0)) (h2 : ¬ kindOf id = 0) (h3 : dupL L id = true) : pgs s (f + 1) L a = ([], 130) := by
  unfold pgs; rw [if_neg h, if_neg h1, hg]
  simp only [ne_eq, not_true_eq_false, false_or]
  rw [if_neg h2, if_pos h3]
theorem pgs_rd {s : ByteArray} {f : Nat} {L : List Pp} {a id nx : Int} (h : ¬ (s.size : Int) ≤ a) (h1 : ¬ 64 ≤ L.length) (hg : getV s a = (id, nx, 0)) (h2 : ¬ kindOf id = 0) (h3 : dupL L id = false) :
    pgs s (f + 1) L a = match rdv s id nx with | none => ([], 129) | some (p, to) => pgs s f (L ++ [p]) to := by
  show (if (s.size : Int) ≤ a then (L, 0) else if 64 ≤ L.length then ([], 149) else if (getV s a).2.2 ≠ 0 ∨ kindOf (getV s a).1 = 0 then ([], 129) else if dupL L (getV s a).1 = true then ([], 130) else match rdv s (getV s a).1 (getV s a).2.1 with | none => ([], 129) | some (p, to) => pgs s f (L ++ [p]) to) = _
  rw [if_neg h, if_neg h1, hg]
  simp only [ne_eq, not_true_eq_false, false_or]
  rw [if_neg h2, if_neg (by rw [h3]; decide)]
theorem getP_code {s : ByteArray} {at_ n f c : Int} (h : getV s at_ = (n, f, c)) (hc : c ≠ 0) : getP s at_ = ([], 0, c) := by unfold getP; rw [h]; simp [hc]
theorem getP_none {s : ByteArray} {at_ n f : Int} (h : getV s at_ = (n, f, 0)) (hn : (s.size : Int) - f < n) : getP s at_ = ([], 0, 242) := by unfold getP; rw [h]; simp [hn]
theorem getP_bad {s : ByteArray} {at_ : Int} {m f : Nat} {L : List Pp} {c : Int} (h : getV s at_ = ((m : Int), (f : Int), 0)) (hn : f + m ≤ s.size) (hr : pgs (s.extract f (f + m)) 66 [] 0 = (L, c)) (hc : c ≠ 0) : getP s at_ = ([], 0, c) := by
  unfold getP; rw [h]
  simp only [ne_eq, not_true_eq_false, if_false, Int.toNat_natCast]
  rw [if_neg (by omega), hr]
  simp [hc]
theorem getP_ok {s : ByteArray} {at_ : Int} {m f : Nat} {L : List Pp} (h : getV s at_ = ((m : Int), (f : Int), 0)) (hn : f + m ≤ s.size) (hr : pgs (s.extract f (f + m)) 66 [] 0 = (L, 0)) : getP s at_ = (L, (f : Int) + m, 0) := by
  unfold getP; rw [h]
  simp only [ne_eq, not_true_eq_false, if_false, Int.toNat_natCast]
  rw [if_neg (by omega), hr]
  simp
theorem pgs_codes (s : ByteArray) : ∀ (f : Nat) (L : List Pp) (a : Int), L.length ≤ 64 → (0 ≤ (pgs s f L a).2 ∧ (pgs s f L a).2 ≤ 149) ∧ (pgs s f L a).1.length ≤ 64
  | 0, L, a, h => ⟨⟨Int.le_refl 0, (by decide : (0 : Int) ≤ 149)⟩, h⟩
  | f + 1, L, a, h => by
    unfold pgs
    split
    · exact ⟨⟨Int.le_refl 0, (by decide : (0 : Int) ≤ 149)⟩, h⟩
    · split
      · exact ⟨⟨by decide, by decide⟩, by decide⟩
      · split
        · exact ⟨⟨by decide, by decide⟩, by decide⟩
        · split
          · exact ⟨⟨by decide, by decide⟩, by decide⟩
          · split
            · exact ⟨⟨by decide, by decide⟩, by decide⟩
            · exact pgs_codes s f _ _ (by rw [List.length_append]; simp; omega)
theorem getP_codes (s : ByteArray) (a : Int) : (0 ≤ (getP s a).2.2 ∧ (getP s a).2.2 ≤ 242) ∧ (getP s a).1.length ≤ 64 := by
  have hv := getV_code s a
  unfold getP
  split
  · exact ⟨hv, by simp⟩
  · split
    · exact ⟨⟨by decide, by decide⟩, by simp⟩
    · have h := pgs_codes (s.extract (getV s a).2.1.toNat ((getV s a).2.1.toNat + (getV s a).1.toNat)) 66 [] 0 (by decide)
      simp only
      split
      · exact ⟨⟨h.1.1, by have := h.1.2; simp only; omega⟩, by simp⟩
      · exact ⟨⟨by simp, by simp⟩, h.2⟩
end Go.Proofs.YtlnanenfpapfkaaDoor

/- What the bytes of a packet are read as: plain. -/
namespace Go.Proofs.YtlnanenfpapfkaaDoor
set_option linter.unusedVariables false
open Go.RowKit Pl Go.PlainAid

/-- What is read, and where it ends; or a code. -/
abbrev RR (α : Type) := Except Int (α × Int)
def bindR {α β : Type} (r : RR α) (k : α → Int → RR β) : RR β := match r with
  | .error c => .error c
  | .ok (v, a) => k v a
def rNum (s : ByteArray) (k a : Int) : RR Int := if (getF s a k).2.2 = 0 then .ok ((getF s a k).1, (getF s a k).2.1) else .error 129
def rText (s : ByteArray) (a : Int) : RR ByteArray := if (tget s a).2.2 = 0 then .ok ((tget s a).1, (tget s a).2.1) else .error 129
def rData (s : ByteArray) (a : Int) : RR ByteArray := if (getD s a).2.2 = 0 then .ok ((getD s a).1, (getD s a).2.1) else .error 129
def rId (s : ByteArray) (a : Int) : RR Int := bindR (rNum s 2 a) fun n a => if n = 0 then .error 130 else .ok (n, a)
def rProps (k : Int) (s : ByteArray) (a : Int) : RR (List Pp) :=
  if (getP s a).2.2 = 242 then .error 129 else if (getP s a).2.2 ≠ 0 then .error (getP s a).2.2 else if okAll k (getP s a).1 = false then .error 130 else .ok ((getP s a).1, (getP s a).2.1)
def sbOf (f : ByteArray) (n : Int) : Sb := ⟨f, n % 4, decide (n / 4 % 2 = 1), decide (n / 8 % 2 = 1), n / 16 % 4⟩
def rSub (s : ByteArray) (a : Int) : RR Sb := bindR (rText s a) fun f a => bindR (rNum s 1 a) fun n a =>
  if ¬ (n % 4 < 3 ∧ n < 64) then .error 129 else if n / 16 % 4 = 3 then .error 130 else .ok (sbOf f n, a)
/-! A CONNECT. -/
def badFl (f : Int) : Prop := ¬ (f % 2 = 0 ∧ f / 8 % 4 < 3 ∧ (f / 4 % 2 = 1 ∨ (f / 8 % 4 = 0 ∧ f / 32 % 2 = 0)))
instance (f : Int) : Decidable (badFl f) := by unfold badFl; infer_instance
def cSet (p : Pk) (f : Int) : Pk := { p with clean := decide (f / 2 % 2 = 1), hasWill := decide (f / 4 % 2 = 1), hasPass := decide (f / 64 % 2 = 1), hasUser := decide (f / 128 % 2 = 1), wq := f / 8 % 4, wr := decide (f / 32 % 2 = 1) }
def rPass (s : ByteArray) (p : Pk) (a : Int) : RR Pk := if p.hasPass = true then bindR (rData s a) fun d a => .ok ({ p with pass := d }, a) else .ok (p, a)
def rUser (s : ByteArray) (p : Pk) (a : Int) : RR Pk := if p.hasUser = true then bindR (rText s a) fun t a => rPass s { p with user := t } a else rPass s p a
def rWill (s : ByteArray) (p : Pk) (a : Int) : RR Pk := if p.hasWill = true then bindR (rProps 0 s a) fun l a => bindR (rText s a) fun t a => bindR (rData s a) fun d a => rUser s { p with wps := l, wt := t, wp := d } a else rUser s p a
def rKeep (s : ByteArray) (p : Pk) (a : Int) : RR Pk := bindR (rNum s 2 a) fun n a => bindR (rProps 1 s a) fun l a => bindR (rText s a) fun t a => rWill s { p with keep := n, ps := l, client := t } a
def rConn (s : ByteArray) (p : Pk) (a : Int) : RR Pk := bindR (rText s a) fun t a => if t ≠ name5 then .error 129 else
  bindR (rNum s 1 a) fun v a => if v ≠ 5 then .error 132 else bindR (rNum s 1 a) fun f a => if badFl f then .error 129 else rKeep s (cSet p f) a
/-! The others. -/
def rConnack (s : ByteArray) (p : Pk) (a : Int) : RR Pk := bindR (rNum s 1 a) fun n a => if ¬ n < 2 then .error 129 else bindR (rNum s 1 a) fun c a => bindR (rProps 2 s a) fun l a => .ok ({ p with session := decide (n = 1), code := c, ps := l }, a)
def rPayl (s : ByteArray) (p : Pk) (a : Int) : RR Pk := bindR (rProps 3 s a) fun l a => .ok ({ p with ps := l, payload := s.extract a.toNat s.size }, s.size)
def rPub (s : ByteArray) (p : Pk) (a : Int) : RR Pk := bindR (rText s a) fun t a => if 0 < p.q then bindR (rId s a) fun n a => rPayl s { p with topic := t, id := n } a else rPayl s { p with topic := t } a
def rEndP (s : ByteArray) (p : Pk) (a : Int) : RR Pk := if a < s.size then bindR (rProps p.kind s a) fun l a => .ok ({ p with ps := l }, a) else .ok (p, a)
def rEnd (s : ByteArray) (p : Pk) (a : Int) : RR Pk := if a < s.size then bindR (rNum s 1 a) fun c a => rEndP s { p with code := c } a else rEndP s p a
def rAck (s : ByteArray) (p : Pk) (a : Int) : RR Pk := bindR (rId s a) fun n a => rEnd s { p with id := n } a
/-- One item of a list. -/
def rItem (s : ByteArray) (p : Pk) (a : Int) : RR Pk :=
  if p.kind = 8 then bindR (rSub s a) fun x a => .ok ({ p with subs := p.subs ++ [x] }, a)
  else if p.kind = 10 then bindR (rText s a) fun x a => .ok ({ p with filters := p.filters ++ [x] }, a)
  else bindR (rNum s 1 a) fun x a => .ok ({ p with codes := p.codes ++ [x] }, a)
/-- f items more may stand there. -/
def rItems (s : ByteArray) : Nat → Pk → Int → RR Pk
  | 0, p, a => if a < s.size then .error 149 else .ok (p, a)
  | f + 1, p, a => if a < s.size then bindR (rItem s p a) fun p a => rItems s f p a else .ok (p, a)
def rLists (s : ByteArray) (p : Pk) (a : Int) : RR Pk := bindR (rId s a) fun n a => bindR (rProps p.kind s a) fun l a => if a < s.size then rItems s 64 { p with id := n, ps := l } a else .error 130
def rKind (s : ByteArray) (p : Pk) (a : Int) : RR Pk :=
  if p.kind = 1 then rConn s p a else if p.kind = 2 then rConnack s p a else if p.kind = 3 then rPub s p a
  else if p.kind = 4 ∨ p.kind = 5 ∨ p.kind = 6 ∨ p.kind = 7 then rAck s p a
  else if p.kind = 14 ∨ p.kind = 15 then rEnd s p a
  else if p.kind = 8 ∨ p.kind = 9 ∨ p.kind = 10 ∨ p.kind = 11 then rLists s p a else .ok (p, a)
def rBody (s : ByteArray) (p : Pk) (a : Int) : RR Pk := bindR (rKind s p a) fun p a => if a < s.size then .error 129 else .ok (p, a)
def zPk : Pk := ⟨0, false, false, 0, 0, ⟨#[]⟩, ⟨#[]⟩, 0, [], [], ⟨#[]⟩, false, 0, false, ⟨#[]⟩, ⟨#[]⟩, 0, false, [], false, false, ⟨#[]⟩, ⟨#[]⟩, false, [], []⟩
/-- What a head byte gives. -/
def hdO (b : Int) : Option Pk :=
  if b / 16 = 0 then none
  else if b / 16 = 3 then (if b / 2 % 4 < 3 ∧ (b / 8 % 2 = 0 ∨ 0 < b / 2 % 4) then some { zPk with kind := 3, dup := decide (b / 8 % 2 = 1), q := b / 2 % 4, ret := decide (b % 2 = 1) } else none)
  else if b % 16 = kFlags (b / 16) then some { zPk with kind := b / 16 } else none
def pkGet (s : ByteArray) : Pk × Int :=
  if s.size = 0 then (zPk, 242) else match hdO (bt s 0) with
  | none => (zPk, 129)
  | some p =>
    if (getV s 1).2.2 ≠ 0 then (zPk, (getV s 1).2.2) else if 65536 < (getV s 1).1 then (zPk, 149)
    else if (s.size : Int) - (getV s 1).2.1 < (getV s 1).1 then (zPk, 242) else if (s.size : Int) - (getV s 1).2.1 ≠ (getV s 1).1 then (zPk, 129)
    else match rBody (s.extract (getV s 1).2.1.toNat s.size) p 0 with
    | .error c => (zPk, c)
    | .ok (q, _) => (q, 0)
/-! How far is read. -/
theorem getF_at {s : ByteArray} {a k : Int} (h : (getF s a k).2.2 = 0) : 0 ≤ a ∧ a ≤ (getF s a k).2.1 ∧ (getF s a k).2.1 ≤ s.size ∧ (getF s a k).2.1 = a + k ∧ Wide k := by
  unfold getF at h ⊢
  split at h
  · simp at h
  · rename_i h1
    split at h
    · simp at h
    · rename_i h2
      have hw : Wide k := Classical.byContradiction fun c => h1 (.inl c)
      have h3 : 0 ≤ a := Int.not_lt.1 fun c => h1 (.inr (.inl c))
      have hk : 0 < k := by unfold Wide at hw; omega
      rw [if_neg h1, if_neg h2]
      simp only
      exact ⟨h3, by omega, by omega, trivial, hw⟩
theorem getD_at {s : ByteArray} {a : Int} (h : (getD s a).2.2 = 0) : 0 ≤ a ∧ a ≤ (getD s a).2.1 ∧ (getD s a).2.1 ≤ s.size := by
  rcases getF_two s a with hf | hf | ⟨b, m, rfl, hf, hm, hb⟩
  · unfold getD at h; rw [hf] at h; simp at h
  · unfold getD at h; rw [hf] at h; simp at h
  · unfold getD at h ⊢
    rw [hf] at h ⊢
    simp only [ne_eq, not_true_eq_false, if_false] at h ⊢
    split at h
    · simp at h
    · rename_i h2
      rw [if_neg h2]
      simp only
      omega
theorem tget_at {s : ByteArray} {a : Int} (h : (tget s a).2.2 = 0) : 0 ≤ a ∧ a ≤ (tget s a).2.1 ∧ (tget s a).2.1 ≤ s.size := by
  unfold tget at h ⊢
  split at h
  · rename_i h1; exact absurd h h1
  · rename_i h1
    split at h
    · simp at h
    · rename_i h2
      rw [if_neg h1, if_neg h2]
      exact getD_at h
theorem rNum_at {s : ByteArray} {k a n b : Int} (h : rNum s k a = .ok (n, b)) : a ≤ b ∧ b ≤ s.size ∧ 0 ≤ a := by
  unfold rNum at h
  split at h
  · rename_i h1; cases h; have := getF_at h1; exact ⟨this.2.1, this.2.2.1, this.1⟩
  · cases h
theorem rText_at {s : ByteArray} {a b : Int} {t : ByteArray} (h : rText s a = .ok (t, b)) : a ≤ b ∧ b ≤ s.size ∧ 0 ≤ a := by
  unfold rText at h
  split at h
  · rename_i h1; cases h; have := tget_at h1; exact ⟨this.2.1, this.2.2, this.1⟩
  · cases h
theorem rData_at {s : ByteArray} {a b : Int} {t : ByteArray} (h : rData s a = .ok (t, b)) : a ≤ b ∧ b ≤ s.size ∧ 0 ≤ a := by
  unfold rData at h
  split at h
  · rename_i h1; cases h; have := getD_at h1; exact ⟨this.2.1, this.2.2, this.1⟩
  · cases h
end Go.Proofs.YtlnanenfpapfkaaDoor

/- The tables of utf8 stand where other blocks turn. -/
namespace Go.Proofs.YtlnanenfpapfkaaDoor
set_option linter.unusedVariables false
open Go.RowKit

/-- A block that is none of the tables. -/
def NoTab (R : Nat) : Prop := R ≠ 0 ∧ R ≠ 1
theorem cell_lt {w : World} {a : Addr} {v : Value} (hc : w.cell? a = some v) : a.block < w.heap.size := by
  rcases Nat.lt_or_ge a.block w.heap.size with h' | h'
  · exact h'
  · simp [World.cell?, Array.getElem?_eq_none h'] at hc
theorem tabs_lt {w : World} (h : Tabs w) : 0 < w.heap.size ∧ 1 < w.heap.size := ⟨cell_lt (h.1 0 (by decide)), cell_lt (h.2 0 (by decide)).1⟩
theorem NoTab.new {w : World} {R : Nat} (h : Tabs w) (hR : w.heap.size ≤ R) : NoTab R := by
  have := tabs_lt h
  exact ⟨by omega, by omega⟩
theorem tabs_keep {w w' : World} {S : Nat → Prop} (h : Tabs w) (m : Mod S w w') (hs : ∀ R, S R → NoTab R) : Tabs w' :=
  ⟨fun c hc => (m.cell (cell_lt (h.1 c hc)) (fun c => (hs _ c).1 rfl)).trans (h.1 c hc), fun i hi => ⟨(m.cell (cell_lt (h.2 i hi).1) (fun c => (hs _ c).2 rfl)).trans (h.2 i hi).1, (m.cell (cell_lt (h.2 i hi).2) (fun c => (hs _ c).2 rfl)).trans (h.2 i hi).2⟩⟩
theorem tabs_mod {w w' : World} {R : Nat} (h : Tabs w) (m : Mod (· = R) w w') (hs : NoTab R) : Tabs w' := tabs_keep h m (fun _ e => e ▸ hs)
theorem tabs_set {w : World} (h : Tabs w) {p : Addr} (hs : NoTab p.block) (v : Value) : Tabs (w.setCell p v) := tabs_mod (R := p.block) h ((Mod.refl (· = p.block) w).setCell (.inl rfl) v) hs
end Go.Proofs.YtlnanenfpapfkaaDoor
