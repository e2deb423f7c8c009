/- What the form's reading says of an argument that is a slice of packets. -/
import Derived.Test.YtedapgeabpadaaaDoorQkArg
namespace Go.Proofs.YtedapgeabpadaaaDoor
open Go.ChangeShapes Go.WideShapes Go.RowKit Go.Deep Pl
set_option linter.unusedVariables false

section
variable {H : Type} {enc : TypeId × Value → H} {w : World}
set_option maxRecDepth 100000 in
set_option maxHeartbeats 4000000 in
theorem read_pk {fuel : Nat} {cs : List Value} {y : DataW H × List MemPlace} (h : DataW.trod enc Tryd.prog w 0 (fun _ => true) true fuel 65 cs = some y) :
    ∃ r : PkX, cs = (pkA .u8 r.p r.m).toList ∧ (r.z ≤ 1048576 → PkIn .u8 w r.p r.m ∧ PkCap r.m) ∧ r.z ≤ Rows.uptoBulk y.1 := by
  obtain ⟨d, pl⟩ := y
  have hf0 := h
  have hf1 : DataW.trod enc Tryd.prog w 0 (fun _ => true) true fuel 65 cs = some (d, pl) := hf0
  obtain ⟨xs, n, _, hx, hl, hxl, hf⟩ := DataW.trod_struct Tryd.underlying65 hf1
  have hlc : cs.length = 26 := hl.trans (by kernel_rfl)
  match cs, hlc with
  | [v0, v1, v2, v3, v4, v5, v6, v7, v8, v9, v10, v11, v12, v13, v14, v15, v16, v17, v18, v19, v20, v21, v22, v23, v24, v25], _ =>
    match xs, hxl with
    | [x0, x1, x2, x3, x4, x5, x6, x7, x8, x9, x10, x11, x12, x13, x14, x15, x16, x17, x18, x19, x20, x21], _ =>
      have h0 : DataW.trod enc Tryd.prog w 0 (fun _ => true) true n 3 [v0] = some x0 := by simpa [show Tryd.prog.cellsOf 3 = 1 from by kernel_rfl] using hf 0 _ rfl
      have h1 : DataW.trod enc Tryd.prog w 0 (fun _ => true) true n 4 [v1] = some x1 := by simpa [show Tryd.prog.cellsOf 4 = 1 from by kernel_rfl] using hf 1 _ rfl
      have h2 : DataW.trod enc Tryd.prog w 0 (fun _ => true) true n 4 [v2] = some x2 := by simpa [show Tryd.prog.cellsOf 4 = 1 from by kernel_rfl] using hf 2 _ rfl
      have h3 : DataW.trod enc Tryd.prog w 0 (fun _ => true) true n 3 [v3] = some x3 := by simpa [show Tryd.prog.cellsOf 3 = 1 from by kernel_rfl] using hf 3 _ rfl
      have h4 : DataW.trod enc Tryd.prog w 0 (fun _ => true) true n 3 [v4] = some x4 := by simpa [show Tryd.prog.cellsOf 3 = 1 from by kernel_rfl] using hf 4 _ rfl
      have h5 : DataW.trod enc Tryd.prog w 0 (fun _ => true) true n 9 [v5] = some x5 := by simpa [show Tryd.prog.cellsOf 9 = 1 from by kernel_rfl] using hf 5 _ rfl
      have h6 : DataW.trod enc Tryd.prog w 0 (fun _ => true) true n 9 [v6] = some x6 := by simpa [show Tryd.prog.cellsOf 9 = 1 from by kernel_rfl] using hf 6 _ rfl
      have h7 : DataW.trod enc Tryd.prog w 0 (fun _ => true) true n 5 [v7] = some x7 := by simpa [show Tryd.prog.cellsOf 5 = 1 from by kernel_rfl] using hf 7 _ rfl
      have h8 : DataW.trod enc Tryd.prog w 0 (fun _ => true) true n 59 [v8] = some x8 := by simpa [show Tryd.prog.cellsOf 59 = 1 from by kernel_rfl] using hf 8 _ rfl
      have h9 : DataW.trod enc Tryd.prog w 0 (fun _ => true) true n 60 [v9] = some x9 := by simpa [show Tryd.prog.cellsOf 60 = 1 from by kernel_rfl] using hf 9 _ rfl
      have h10 : DataW.trod enc Tryd.prog w 0 (fun _ => true) true n 9 [v10] = some x10 := by simpa [show Tryd.prog.cellsOf 9 = 1 from by kernel_rfl] using hf 10 _ rfl
      have h11 : DataW.trod enc Tryd.prog w 0 (fun _ => true) true n 4 [v11] = some x11 := by simpa [show Tryd.prog.cellsOf 4 = 1 from by kernel_rfl] using hf 11 _ rfl
      have h12 : DataW.trod enc Tryd.prog w 0 (fun _ => true) true n 3 [v12] = some x12 := by simpa [show Tryd.prog.cellsOf 3 = 1 from by kernel_rfl] using hf 12 _ rfl
      have h13 : DataW.trod enc Tryd.prog w 0 (fun _ => true) true n 4 [v13] = some x13 := by simpa [show Tryd.prog.cellsOf 4 = 1 from by kernel_rfl] using hf 13 _ rfl
      have h14 : DataW.trod enc Tryd.prog w 0 (fun _ => true) true n 62 [v14, v15, v16, v17, v18] = some x14 := by simpa [show Tryd.prog.cellsOf 62 = 5 from by kernel_rfl] using hf 14 _ rfl
      have h15 : DataW.trod enc Tryd.prog w 0 (fun _ => true) true n 4 [v19] = some x15 := by simpa [show Tryd.prog.cellsOf 4 = 1 from by kernel_rfl] using hf 15 _ rfl
      have h16 : DataW.trod enc Tryd.prog w 0 (fun _ => true) true n 4 [v20] = some x16 := by simpa [show Tryd.prog.cellsOf 4 = 1 from by kernel_rfl] using hf 16 _ rfl
      have h17 : DataW.trod enc Tryd.prog w 0 (fun _ => true) true n 9 [v21] = some x17 := by simpa [show Tryd.prog.cellsOf 9 = 1 from by kernel_rfl] using hf 17 _ rfl
      have h18 : DataW.trod enc Tryd.prog w 0 (fun _ => true) true n 9 [v22] = some x18 := by simpa [show Tryd.prog.cellsOf 9 = 1 from by kernel_rfl] using hf 18 _ rfl
      have h19 : DataW.trod enc Tryd.prog w 0 (fun _ => true) true n 4 [v23] = some x19 := by simpa [show Tryd.prog.cellsOf 4 = 1 from by kernel_rfl] using hf 19 _ rfl
      have h20 : DataW.trod enc Tryd.prog w 0 (fun _ => true) true n 63 [v24] = some x20 := by simpa [show Tryd.prog.cellsOf 63 = 1 from by kernel_rfl] using hf 20 _ rfl
      have h21 : DataW.trod enc Tryd.prog w 0 (fun _ => true) true n 22 [v25] = some x21 := by simpa [show Tryd.prog.cellsOf 22 = 1 from by kernel_rfl] using hf 21 _ rfl
      obtain ⟨i0, e0, y0, z0⟩ := DataW.trod_int Tryd.underlying3 h0
      have b0 := i64_bd z0
      obtain ⟨i1, e1, y1⟩ := DataW.trod_bool Tryd.underlying4 h1
      obtain ⟨i2, e2, y2⟩ := DataW.trod_bool Tryd.underlying4 h2
      obtain ⟨i3, e3, y3, z3⟩ := DataW.trod_int Tryd.underlying3 h3
      have b3 := i64_bd z3
      obtain ⟨i4, e4, y4, z4⟩ := DataW.trod_int Tryd.underlying3 h4
      have b4 := i64_bd z4
      obtain ⟨i5, e5, _, b5⟩ := read_str h5
      obtain ⟨i6, e6, _, b6⟩ := read_str h6
      obtain ⟨i7, e7, b7, _⟩ := read_byte h7
      obtain ⟨A8, c8, L8, e8, lc8, cm8, an8, lb8, ok8, row8⟩ := open_row (e := 5) (k := 1) (fun r : Int => [Value.int .u8 r]) (fun _ => 0) (fun r => 0 ≤ r ∧ r ≤ 255) 0 (by kernel_rfl) (by decide) (fun _ => rfl) Tryd.underlying59 (fun n cs y h => read_byte h) h8
      obtain ⟨A9, c9, L9, e9, lc9, cm9, an9, lb9, ok9, row9⟩ := open_row (e := 124) (k := 4) (fun r : Pp => (ppA r).toList) (fun r => r.s.size + r.t.size) (fun r => -9223372036854775808 ≤ r.id ∧ r.id ≤ 9223372036854775807 ∧ -9223372036854775808 ≤ r.n ∧ r.n ≤ 9223372036854775807) ⟨0, 0, ⟨#[]⟩, ⟨#[]⟩⟩ (by kernel_rfl) (by decide) (fun _ => rfl) Tryd.underlying60 (fun n cs y h => read_prop h) h9
      obtain ⟨i10, e10, _, b10⟩ := read_str h10
      obtain ⟨i11, e11, y11⟩ := DataW.trod_bool Tryd.underlying4 h11
      obtain ⟨i12, e12, y12, z12⟩ := DataW.trod_int Tryd.underlying3 h12
      have b12 := i64_bd z12
      obtain ⟨i13, e13, y13⟩ := DataW.trod_bool Tryd.underlying4 h13
      obtain ⟨wt, wp, wq, wr, wA, wc, wL, hwill⟩ := read_will h14
      have e14 := hwill.cells
      obtain ⟨i15, e15, y15⟩ := DataW.trod_bool Tryd.underlying4 h15
      obtain ⟨i16, e16, y16⟩ := DataW.trod_bool Tryd.underlying4 h16
      obtain ⟨i17, e17, _, b17⟩ := read_str h17
      obtain ⟨i18, e18, _, b18⟩ := read_str h18
      obtain ⟨i19, e19, y19⟩ := DataW.trod_bool Tryd.underlying4 h19
      obtain ⟨A20, c20, L20, e20, lc20, cm20, an20, lb20, ok20, row20⟩ := open_row (e := 87) (k := 5) (fun r : Sb => (sbA r).toList) (fun r => r.f.size) (fun r => i64B r.q ∧ i64B r.h) ⟨⟨#[]⟩, 0, false, false, 0⟩ (by kernel_rfl) (by decide) (fun _ => rfl) Tryd.underlying63 (fun n cs y h => read_sub h) h20
      obtain ⟨A21, c21, L21, e21, lc21, cm21, an21, lb21, ok21, row21⟩ := open_row (e := 9) (k := 1) (fun r : ByteArray => [Value.string r]) (fun r => r.size) (fun _ => True) ⟨#[]⟩ (by kernel_rfl) (by decide) (fun _ => rfl) Tryd.underlying22 (fun n cs y h => read_str h) h21
      simp only [List.cons.injEq, and_true] at e0 e1 e2 e3 e4 e5 e6 e7 e8 e9 e10 e11 e12 e13 e14 e15 e16 e17 e18 e19 e20 e21
      subst e0
      subst e1
      subst e2
      subst e3
      subst e4
      subst e5
      subst e6
      subst e7
      subst e8
      subst e9
      subst e10
      subst e11
      subst e12
      subst e13
      obtain ⟨rfl, rfl, rfl, rfl, rfl⟩ := e14
      subst e15
      subst e16
      subst e17
      subst e18
      subst e19
      subst e20
      subst e21
      have hb : ∀ y ∈ [x0, x1, x2, x3, x4, x5, x6, x7, x8, x9, x10, x11, x12, x13, x14, x15, x16, x17, x18, x19, x20, x21], Rows.uptoBulk y.1 ≤ Rows.uptoBulk d := by
        intro y hy
        have hd : d = .agg ([x0, x1, x2, x3, x4, x5, x6, x7, x8, x9, x10, x11, x12, x13, x14, x15, x16, x17, x18, x19, x20, x21].map (·.1)) := by injection hx
        rw [hd]
        simp only [Rows.uptoBulk]
        have := bulk_memD (List.mem_map.2 ⟨y, hy, rfl⟩ : y.1 ∈ [x0, x1, x2, x3, x4, x5, x6, x7, x8, x9, x10, x11, x12, x13, x14, x15, x16, x17, x18, x19, x20, x21].map (·.1))
        omega
      have q5 := hb x5 (by simp)
      have q6 := hb x6 (by simp)
      have q8 := hb x8 (by simp)
      have q9 := hb x9 (by simp)
      have q10 := hb x10 (by simp)
      have q14 := hb x14 (by simp)
      have q17 := hb x17 (by simp)
      have q18 := hb x18 (by simp)
      have q20 := hb x20 (by simp)
      have q21 := hb x21 (by simp)
      refine ⟨⟨⟨i0, i1, i2, i3, i4, i5, i6, i7, L8, L9, i10, i11, i12, i13, wt, wp, wq, wr, wL, i15, i16, i17, i18, i19, L20, L21⟩, ⟨⟨A8, L8.length, c8⟩, ⟨A9, L9.length, c9⟩, ⟨wA, wL.length, wc⟩, ⟨A20, L20.length, c20⟩, ⟨A21, L21.length, c21⟩⟩, Rows.uptoBulk d⟩, rfl, fun hz => ⟨⟨?_, rfl, lc9, prow_of row9, rfl, hwill.lc, hwill.row, rfl, lc8, vrow_of row8, rfl, lc20, sbrow_of row20, rfl, lc21, vrow_of row21, an20, an21⟩, ⟨cm8, an8, cm9, an9, hwill.cm, hwill.an, cm20, cm21⟩⟩, Nat.le_refl _⟩
      dsimp only at hz
      have hp := hwill.p
      have ht := hwill.t
      have hlb := hwill.lb
      exact ⟨b0, b3, b4, b12, hwill.q, b7, by dsimp only; omega, by dsimp only; omega, by dsimp only; omega, by dsimp only; omega, by dsimp only; omega, by dsimp only; omega, by dsimp only; omega, ⟨by dsimp only; omega, fun r hr => by have := ok9 r hr; exact ⟨by omega, by omega, this.1.1, this.1.2.1, this.1.2.2.1, this.1.2.2.2⟩⟩, ⟨by dsimp only; omega, fun r hr => by have := hwill.ok r hr; exact ⟨by omega, by omega, this.1.1, this.1.2.1, this.1.2.2.1, this.1.2.2.2⟩⟩, ⟨by dsimp only; omega, fun r hr => (ok8 r hr).1⟩, ⟨by dsimp only; omega, fun r hr => by have := ok20 r hr; exact ⟨by omega, this.1.1, this.1.2⟩⟩, ⟨by dsimp only; omega, fun r hr => by have := ok21 r hr; omega⟩⟩
end
/-- A slice of packets, each of its own bulk. -/
structure PksX where
  l : List PkX
  z : Nat
def bulkPks (x : PksX) : Nat := x.z
structure PksOk (w : World) (v : Value) (x : PksX) : Prop where
  shape : ∃ A cap, v = .slice A x.l.length cap ∧ x.l.length ≤ cap ∧ cap ≤ maxLen ∧ (0 < x.l.length → ∃ b o, A = some ⟨b, o, none⟩ ∧ b < w.heap.size ∧ ∀ i r, x.l[i]? = some r → ∀ j u, (pkA .u8 r.p r.m).toList[j]? = some u → w.cell? ⟨b, o + i * 26 + j, none⟩ = some u)
  ok : x.z ≤ 1048576 → ∀ r ∈ x.l, PkIn .u8 w r.p r.m ∧ PkCap r.m
set_option maxRecDepth 100000 in
theorem open_pks_arg {H : Type} {enc : TypeId × Value → H} {w : World} {v : Value} {d : DataW H} {pl : List MemPlace} {r : Reach} {b0 : Nat} (hv : Value.okWide Tryd.prog w r b0 58 v) (h : DataW.Trod enc Tryd.prog w 0 (fun _ => true) true 58 v d pl) :
    ∃ x : PksX, PksOk w v x ∧ bulkPks x ≤ Rows.uptoBulk d := by
  obtain ⟨fuel, hf⟩ := h
  have hf : DataW.trod enc Tryd.prog w 0 (fun _ => true) true fuel 58 [v] = some (d, pl) := by
    have hs : v.cells.toList = [v] := by
      rcases okWide_slice Tryd.underlying58 hv with ⟨_, _, _, rfl, _⟩
      rfl
    rw [← hs]; exact hf
  have dft : PkX := ⟨⟨0, false, false, 0, 0, ⟨#[]⟩, ⟨#[]⟩, 0, [], [], ⟨#[]⟩, false, 0, false, ⟨#[]⟩, ⟨#[]⟩, 0, false, [], false, false, ⟨#[]⟩, ⟨#[]⟩, false, [], []⟩, ⟨⟨none, 0, 0⟩, ⟨none, 0, 0⟩, ⟨none, 0, 0⟩, ⟨none, 0, 0⟩, ⟨none, 0, 0⟩⟩, 0⟩
  obtain ⟨A, c, L, e, lc, cm, an, lb, ok, row⟩ := open_row (e := 65) (k := 26) (fun r : PkX => (pkA .u8 r.p r.m).toList) (fun r => r.z) (fun r => r.z ≤ 1048576 → PkIn .u8 w r.p r.m ∧ PkCap r.m) dft (by kernel_rfl) (by decide) (fun _ => rfl) Tryd.underlying58 (fun n cs y h => read_pk h) hf
  simp only [List.cons.injEq, and_true] at e
  refine ⟨⟨L, Rows.uptoBulk d⟩, ⟨⟨A, c, e, lc, cm, row⟩, fun hz r hr => (ok r hr).1 (Nat.le_trans (ok r hr).2 hz)⟩, Nat.le_refl _⟩
end Go.Proofs.YtedapgeabpadaaaDoor
