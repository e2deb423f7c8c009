/- StreamPackets (for inputs of bulk at most 1048576): the law's walk. -/
import Derived.Test.YtedapgeabpadaaaDoorH6W
import Derived.Test.YtedapgeabpadaaaDoorQkL5
import Derived.Test.YtedapgeabpadaaaDoorQkArgs
import Derived.Lib.MinMax
set_option linter.unusedVariables false
namespace Go.Proofs.YtedapgeabpadaaaDoor
open Go.RowKit Pl Go.Shelf Go.PlainAid

theorem packets_n6 (p : Pk) (m : Hs) (w : World) (hP : PkIn .u8 w p m) (hC : PkCap m) : Calls Tryd.prog 14 #[.agg (pkA .u8 p m)] w (PkPost w p) :=
  packets_any p m.c.A m.p.A m.w.A m.s.A m.f.A m.c.n m.p.n m.w.n m.s.n m.f.n m.c.cap m.p.cap m.w.cap m.s.cap m.f.cap w hP hC
theorem lpk_size6 : (Tryd.prog.info? 65).map (·.size) = some 26 := by kernel_rfl
theorem catK_snoc (x : ByteArray) : ∀ ps : List ByteArray, catB (ps ++ [x]) = catB ps ++ x := by
  intro ps
  induction ps with
  | nil => rw [List.nil_append, show catB [x] = x ++ (⟨#[]⟩ : ByteArray) from rfl, app_nil, show catB [] = (⟨#[]⟩ : ByteArray) from rfl, nil_app]
  | cons y r ih => rw [List.cons_append, show catB (y :: (r ++ [x])) = y ++ catB (r ++ [x]) from rfl, ih, ← app_assoc]; rfl
theorem Sl.vrow {w : World} {B n cap : Nat} {e : TypeId} {A : Option Addr} {xs : List Value} (s : Sl B w e 1 (.slice A n cap) n xs) : VRow w A xs := by
  intro hp
  have := s.1
  obtain ⟨g, o, cap', hv, _, h1, _, _, h2⟩ := s.at (by omega)
  injection hv with e1 _ _
  exact ⟨g, o, e1, h1, fun i x hi => h2 i x hi⟩
theorem pkS_bd6 {q : Pk} (h : pkC q = 0) : (pkS q).size ≤ 65541 ∧ 1 ≤ (pkS q).size := by
  have hs := pk_shp h
  have := hs.L1
  have := hs.size
  have := shp_len hs
  omega
theorem toList_ne6 {s : ByteArray} (h : 1 ≤ s.size) : s.toList.isEmpty = false := by
  cases he : s.toList with
  | nil =>
    have h1 := congrArg List.length he
    rw [show s.toList.length = s.size by rw [ByteArray.toList_eq]; rfl] at h1
    have h1 : s.size = 0 := h1
    omega
  | cons a l => rfl
/-- A law's packet loaded out of a row. -/
theorem wpList_load_lpk {ops : Array Oper} {rest : List Oper} {op : Oper} {a : Act} {w : World} {Q : Exit → Act → World → Prop} (x : Operand) (b o : Nat) (p : Pk) (m : Hs) (hgd : op.guard = none) (ho : op.op = .load 65 x)
    (hx : a.eval x = .pointer (some ⟨b, o, none⟩)) (hc : w.rangeAt b o (pkA .u8 p m).toList) (h : wpList Tryd.prog ops Q rest (a.put op.dst (.agg (pkA .u8 p m))) w) : wpList Tryd.prog ops Q (op :: rest) a w :=
  wpList_load_mid hgd 65 x ho b o hx (pkA .u8 p m).toList _ hc Tryd.underlying65 rfl (by rw [lpk_size6]; rfl) (by rw [Array.toArray_toList]; exact h)
set_option maxRecDepth 100000 in
set_option maxHeartbeats 8000000 in
theorem streamPackets_walk (v : Value) (X : PksX) (v1 : Value) (x : PkX) (cut : Int) (hn : (Lit.int .i64 cut).wf = true) (w : World) (h : PksOk w v X) (hu : bulkPks X ≤ 1048576) (hx : PkOk w v1 x) (hux : bulkPx x ≤ 1048576) (hT : Tabs w) :
    Calls Tryd.prog 6 #[v, v1, .int .i64 cut] w fun e w' => e = .returned (.bool true) ∧ Below w.heap.size w w' := by
  obtain ⟨A, cap, rfl, hc1, hc2, hrow⟩ := h.shape
  obtain ⟨rfl, hPx, hCx⟩ := hx hux
  have hall := h.ok hu
  obtain ⟨h0, h1⟩ := i64_bd hn
  obtain ⟨xl, hxl⟩ : ∃ xl, X.l = xl := ⟨_, rfl⟩
  rw [hxl] at hc1 hrow hall
  rw [hxl]
  obtain ⟨m, hm⟩ : ∃ m : Nat, min xl.length 10 = m := ⟨_, rfl⟩
  have hm' : min (xl.length : Int) 10 = (m : Int) := by omega
  have hmn : m ≤ xl.length := by omega
  have hm10 : m ≤ 10 := by omega
  have hmc : (m : Int) ≤ (cap : Int) := by omega
  have hm0 : (0 : Int) ≤ (m : Int) := by omega
  have hmax : cap ≤ 9223372036854775807 := hc2
  have HROW := Lib.hid hrow
  have HALL := Lib.hid hall
  have hB := Blk.new w (pkA .u8 x.p x.m) 65
  have b1 : Below w.heap.size w (w.alloc (.cells (pkA .u8 x.p x.m) 65)) := (Below.refl _ _).alloc (Nat.le_refl _) _
  obtain ⟨W, hW⟩ : ∃ W, w.alloc (.cells (pkA .u8 x.p x.m) 65) = W := ⟨_, rfl⟩
  rw [hW] at hB b1
  have HT := Lib.hid (hT.below b1)
  have HB := Lib.hid hB
  have B1 := Lib.hid b1
  have hPW := hPx.below b1
  have HPX := Lib.hid hPW
  have HCX := Lib.hid hCx
  have hWs : w.heap.size ≤ W.heap.size := b1.size
  clear hm hrow hall hB b1 hPx hCx hT hn hu hux hx h hxl hPW
  go_enter Tryd.func6, Tryd.ntmps6
  go_wp2_with fail
  go_loopw [7, 8, 31] (fun sv pv iv wr => ∃ (i : Nat) (G : List Pk) (sx : ByteArray), iv = .int .i64 i ∧ i ≤ m ∧ sv = .string sx ∧ sx.size ≤ 65541 * i ∧ G.length ≤ i ∧ Hid (sx = catB (G.map pkS)) ∧ Hid (∀ q ∈ G, pkC q = 0) ∧ Hid (Sl W.heap.size wr 9 1 pv (G.map pkS).length ((G.map pkS).map Value.string)) ∧ Hid (Below W.heap.size W wr)) (fun _ _ iv _ => ((m : Int) - intOf iv).toNat)
  case atStart => exact ⟨0, [], ⟨#[]⟩, rfl, Nat.zero_le _, rfl, Nat.le_refl _, Nat.le_refl _, Lib.hid rfl, Lib.hid (fun q hq => by simp at hq), Lib.hid (Sl.nil _ _ _ _), Lib.hid (Below.refl _ _)⟩
  case round =>
    obtain ⟨i, G, sx, rfl, hi, rfl, hsz, hGl, hSX, hG, hS, hBw⟩ := hrel
    by_cases him : i < m
    · obtain ⟨r, hr⟩ : ∃ r, xl[i]? = some r := ⟨_, List.getElem?_eq_getElem (by omega)⟩
      obtain ⟨b, o, rfl, hlt, hcl⟩ := HROW.out (by omega)
      have hbW : b < W.heap.size := by omega
      have hrange : wr.rangeAt b (o + i * 26) (pkA .u8 r.p r.m).toList := fun j u hu => (hBw.out.cell (p := ⟨b, o + i * 26 + j, none⟩) hbW).trans ((B1.out.cell (p := ⟨b, o + i * 26 + j, none⟩) hlt).trans (hcl i r hr j u hu))
      obtain ⟨hPr, hCr⟩ := HALL.out r (List.mem_of_getElem? hr)
      have hWr : W.heap.size ≤ wr.heap.size := hBw.out.size
      have hPr : PkIn .u8 wr r.p r.m := (hPr.below B1.out).below hBw.out
      obtain ⟨Y, hY⟩ : ∃ Y, wr.alloc (.cells #[.int .i64 0, .bool false, .bool false, .int .i64 0, .int .i64 0, .string ⟨#[]⟩, .string ⟨#[]⟩, .int .u8 0, .slice none 0 0, .slice none 0 0, .string ⟨#[]⟩, .bool false, .int .i64 0, .bool false, .string ⟨#[]⟩, .string ⟨#[]⟩, .int .i64 0, .bool false, .slice none 0 0, .bool false, .bool false, .string ⟨#[]⟩, .string ⟨#[]⟩, .bool false, .slice none 0 0, .slice none 0 0] 65) = Y := ⟨_, rfl⟩
      have hy : Blk Y wr.heap.size #[.int .i64 0, .bool false, .bool false, .int .i64 0, .int .i64 0, .string ⟨#[]⟩, .string ⟨#[]⟩, .int .u8 0, .slice none 0 0, .slice none 0 0, .string ⟨#[]⟩, .bool false, .int .i64 0, .bool false, .string ⟨#[]⟩, .string ⟨#[]⟩, .int .i64 0, .bool false, .slice none 0 0, .bool false, .bool false, .string ⟨#[]⟩, .string ⟨#[]⟩, .bool false, .slice none 0 0, .slice none 0 0] 65 := by rw [← hY]; exact Blk.new _ _ _
      have by_ : Below wr.heap.size wr Y := by rw [← hY]; exact (Below.refl _ _).alloc (Nat.le_refl _) _
      obtain ⟨Z, hZ⟩ : ∃ Z, Y.setRow wr.heap.size (pkA .u8 r.p r.m) = Z := ⟨_, rfl⟩
      have hz : Blk Z wr.heap.size (pkA .u8 r.p r.m) 65 := by rw [← hZ]; exact hy.row _
      have bz : Below wr.heap.size wr Z := by rw [← hZ]; exact below_setRow by_ (Nat.le_refl _) _
      have HY := Lib.hid hy
      have HZ := Lib.hid hz
      have HZ0 : Hid (Blk (Y.setRow wr.heap.size (pkA .u8 r.p r.m)) wr.heap.size (pkA .u8 r.p r.m) 65) := Lib.hid (by rw [hZ]; exact hz)
      have HRG := Lib.hid hrange
      have CPK := Lib.hid (packets_n6 r.p r.m Z (hPr.below bz) hCr)
      have HBZ := Lib.hid bz
      have iI : (i : Int) < (m : Int) := by omega
      have II : Hid (i < m) := Lib.hid him
      clear hr hlt hcl hbW hrange hPr hCr hy by_ hz bz him
      go_wp2_with (first | (refine wpList_load_lpk (.tmp 33) b (o + i * 26) r.p r.m rfl rfl rfl HRG.out ?_) | (refine wpList_store_rowTo rfl 65 (.tmp 10) (.tmp 34) rfl rfl wr.heap.size (pkA .u8 r.p r.m) rfl rfl 65 #[.int .i64 0, .bool false, .bool false, .int .i64 0, .int .i64 0, .string ⟨#[]⟩, .string ⟨#[]⟩, .int .u8 0, .slice none 0 0, .slice none 0 0, .string ⟨#[]⟩, .bool false, .int .i64 0, .bool false, .string ⟨#[]⟩, .string ⟨#[]⟩, .int .i64 0, .bool false, .slice none 0 0, .bool false, .bool false, .string ⟨#[]⟩, .string ⟨#[]⟩, .bool false, .slice none 0 0, .slice none 0 0] HY.out lpk_size6 rfl (pkA_oneP _ _ _) ?_) | (refine wpList_load_row rfl 65 (.tmp 10) rfl wr.heap.size rfl 65 (pkA .u8 r.p r.m) (0, 0) _ HZ.out Tryd.underlying65 rfl lpk_size6 ?_) | (refine wpList_load_row rfl 65 (.tmp 10) rfl wr.heap.size rfl 65 (pkA .u8 r.p r.m) (0, 0) _ HZ0.out Tryd.underlying65 rfl lpk_size6 ?_) | (fail))
      refine CPK.out.mono ?_
      rintro e w1 ⟨m1, m2, rfl, P1, P2, b2⟩
      unfold pkV
      obtain ⟨q, hq⟩ : ∃ q, cutP r.p = q := ⟨_, rfl⟩
      rw [hq] at P1 P2 ⊢
      clear hY hZ
      obtain ⟨Wa, hWa⟩ : ∃ Wa, w1.alloc (.cells #[.int .i64 0, .bool false, .bool false, .int .i64 0, .int .i64 0, .string ⟨#[]⟩, .string ⟨#[]⟩, .int .u8 0, .slice none 0 0, .slice none 0 0, .string ⟨#[]⟩, .bool false, .int .i64 0, .bool false, .string ⟨#[]⟩, .string ⟨#[]⟩, .int .i64 0, .bool false, .slice none 0 0, .bool false, .bool false, .string ⟨#[]⟩, .string ⟨#[]⟩, .bool false, .slice none 0 0, .slice none 0 0] 45) = Wa := ⟨_, rfl⟩
      have haa : Blk Wa w1.heap.size #[.int .i64 0, .bool false, .bool false, .int .i64 0, .int .i64 0, .string ⟨#[]⟩, .string ⟨#[]⟩, .int .u8 0, .slice none 0 0, .slice none 0 0, .string ⟨#[]⟩, .bool false, .int .i64 0, .bool false, .string ⟨#[]⟩, .string ⟨#[]⟩, .int .i64 0, .bool false, .slice none 0 0, .bool false, .bool false, .string ⟨#[]⟩, .string ⟨#[]⟩, .bool false, .slice none 0 0, .slice none 0 0] 45 := by rw [← hWa]; exact Blk.new _ _ _
      have ba : Below w1.heap.size w1 Wa := by rw [← hWa]; exact (Below.refl _ _).alloc (Nat.le_refl _) _
      obtain ⟨Wb, hWb⟩ : ∃ Wb, Wa.alloc (.cells #[.int .i64 0, .bool false, .bool false, .int .i64 0, .int .i64 0, .string ⟨#[]⟩, .string ⟨#[]⟩, .int .i64 0, .slice none 0 0, .slice none 0 0, .string ⟨#[]⟩, .bool false, .int .i64 0, .bool false, .string ⟨#[]⟩, .string ⟨#[]⟩, .int .i64 0, .bool false, .slice none 0 0, .bool false, .bool false, .string ⟨#[]⟩, .string ⟨#[]⟩, .bool false, .slice none 0 0, .slice none 0 0] 52) = Wb := ⟨_, rfl⟩
      have hab : Blk Wb w1.heap.size #[.int .i64 0, .bool false, .bool false, .int .i64 0, .int .i64 0, .string ⟨#[]⟩, .string ⟨#[]⟩, .int .u8 0, .slice none 0 0, .slice none 0 0, .string ⟨#[]⟩, .bool false, .int .i64 0, .bool false, .string ⟨#[]⟩, .string ⟨#[]⟩, .int .i64 0, .bool false, .slice none 0 0, .bool false, .bool false, .string ⟨#[]⟩, .string ⟨#[]⟩, .bool false, .slice none 0 0, .slice none 0 0] 45 := by rw [← hWb]; exact haa.alloc _
      have hbb : Blk Wb Wa.heap.size #[.int .i64 0, .bool false, .bool false, .int .i64 0, .int .i64 0, .string ⟨#[]⟩, .string ⟨#[]⟩, .int .i64 0, .slice none 0 0, .slice none 0 0, .string ⟨#[]⟩, .bool false, .int .i64 0, .bool false, .string ⟨#[]⟩, .string ⟨#[]⟩, .int .i64 0, .bool false, .slice none 0 0, .bool false, .bool false, .string ⟨#[]⟩, .string ⟨#[]⟩, .bool false, .slice none 0 0, .slice none 0 0] 52 := by rw [← hWb]; exact Blk.new _ _ _
      have bb : Below w1.heap.size w1 Wb := by rw [← hWb]; exact ba.alloc ba.size _
      have gab : w1.heap.size < Wa.heap.size := haa.lt
      obtain ⟨Wc, hWc⟩ : ∃ Wc, Wb.setRow w1.heap.size (pkA .u8 q m1) = Wc := ⟨_, rfl⟩
      have hac : Blk Wc w1.heap.size (pkA .u8 q m1) 45 := by rw [← hWc]; exact hab.row _
      have hbc : Blk Wc Wa.heap.size #[.int .i64 0, .bool false, .bool false, .int .i64 0, .int .i64 0, .string ⟨#[]⟩, .string ⟨#[]⟩, .int .i64 0, .slice none 0 0, .slice none 0 0, .string ⟨#[]⟩, .bool false, .int .i64 0, .bool false, .string ⟨#[]⟩, .string ⟨#[]⟩, .int .i64 0, .bool false, .slice none 0 0, .bool false, .bool false, .string ⟨#[]⟩, .string ⟨#[]⟩, .bool false, .slice none 0 0, .slice none 0 0] 52 := by rw [← hWc]; exact hbb.row_ (by omega) _
      have bc : Below w1.heap.size w1 Wc := by rw [← hWc]; exact below_setRow bb (by omega) _
      obtain ⟨Wd, hWd⟩ : ∃ Wd, Wc.setRow Wa.heap.size (pkA .i64 q m2) = Wd := ⟨_, rfl⟩
      have had : Blk Wd w1.heap.size (pkA .u8 q m1) 45 := by rw [← hWd]; exact hac.row_ (by omega) _
      have bd : Below w1.heap.size w1 Wd := by rw [← hWd]; exact below_setRow bc (by omega) _
      have HAB := Lib.hid hab
      have HBC := Lib.hid hbc
      have HAD := Lib.hid had
      have HBC0 : Hid (Blk (Wb.setRow w1.heap.size (pkA .u8 q m1)) Wa.heap.size #[.int .i64 0, .bool false, .bool false, .int .i64 0, .int .i64 0, .string ⟨#[]⟩, .string ⟨#[]⟩, .int .i64 0, .slice none 0 0, .slice none 0 0, .string ⟨#[]⟩, .bool false, .int .i64 0, .bool false, .string ⟨#[]⟩, .string ⟨#[]⟩, .int .i64 0, .bool false, .slice none 0 0, .bool false, .bool false, .string ⟨#[]⟩, .string ⟨#[]⟩, .bool false, .slice none 0 0, .slice none 0 0] 52) := Lib.hid (by rw [hWc]; exact hbc)
      have HAD0 : Hid (Blk ((Wb.setRow w1.heap.size (pkA .u8 q m1)).setRow Wa.heap.size (pkA .i64 q m2)) w1.heap.size (pkA .u8 q m1) 45) := Lib.hid (by rw [hWc, hWd]; exact had)
      clear haa ba hab hbb bb gab hac hbc bc had
      have hbr : Below wr.heap.size wr Wd := (HBZ.out.trans (b2.mono HBZ.out.size)).trans (bd.mono (Nat.le_trans HBZ.out.size b2.size))
      have HTd := Lib.hid ((HT.out.below hBw.out).below hbr)
      have CA := wput_any q m1 Wd (P1.below bd) HTd.out
      unfold PkPut at CA
      obtain ⟨cd, hcd⟩ : ∃ c, pkC q = c := ⟨_, rfl⟩
      obtain ⟨s, hs⟩ : ∃ s, pkS q = s := ⟨_, rfl⟩
      rw [hcd, hs] at CA
      have CA := Lib.hid CA
      have HCD := Lib.hid hcd
      have HSq := Lib.hid hs
      have HBR := Lib.hid hbr
      clear hbr P1 P2 hq hs hcd b2 bd HY HZ HZ0 HRG CPK HBZ
      go_wp2_with (first | (refine wpList_store_rowTo rfl 45 (.tmp 11) (.tmp 38) rfl rfl w1.heap.size (pkA .u8 q m1) rfl rfl 45 #[.int .i64 0, .bool false, .bool false, .int .i64 0, .int .i64 0, .string ⟨#[]⟩, .string ⟨#[]⟩, .int .u8 0, .slice none 0 0, .slice none 0 0, .string ⟨#[]⟩, .bool false, .int .i64 0, .bool false, .string ⟨#[]⟩, .string ⟨#[]⟩, .int .i64 0, .bool false, .slice none 0 0, .bool false, .bool false, .string ⟨#[]⟩, .string ⟨#[]⟩, .bool false, .slice none 0 0, .slice none 0 0] HAB.out ppk_size rfl (pkA_oneP _ _ _) ?_) | (refine wpList_store_rowTo rfl 52 (.tmp 12) (.tmp 39) rfl rfl Wa.heap.size (pkA .i64 q m2) rfl rfl 52 #[.int .i64 0, .bool false, .bool false, .int .i64 0, .int .i64 0, .string ⟨#[]⟩, .string ⟨#[]⟩, .int .i64 0, .slice none 0 0, .slice none 0 0, .string ⟨#[]⟩, .bool false, .int .i64 0, .bool false, .string ⟨#[]⟩, .string ⟨#[]⟩, .int .i64 0, .bool false, .slice none 0 0, .bool false, .bool false, .string ⟨#[]⟩, .string ⟨#[]⟩, .bool false, .slice none 0 0, .slice none 0 0] HBC.out rpk_size' rfl (pkA_oneP _ _ _) ?_) | (refine wpList_store_rowTo rfl 52 (.tmp 12) (.tmp 39) rfl rfl Wa.heap.size (pkA .i64 q m2) rfl rfl 52 #[.int .i64 0, .bool false, .bool false, .int .i64 0, .int .i64 0, .string ⟨#[]⟩, .string ⟨#[]⟩, .int .i64 0, .slice none 0 0, .slice none 0 0, .string ⟨#[]⟩, .bool false, .int .i64 0, .bool false, .string ⟨#[]⟩, .string ⟨#[]⟩, .int .i64 0, .bool false, .slice none 0 0, .bool false, .bool false, .string ⟨#[]⟩, .string ⟨#[]⟩, .bool false, .slice none 0 0, .slice none 0 0] HBC0.out rpk_size' rfl (pkA_oneP _ _ _) ?_) | (refine wpList_load_row rfl 45 (.tmp 11) rfl w1.heap.size rfl 45 (pkA .u8 q m1) (0, 0) _ HAD.out Tryd.underlying45 rfl ppk_size ?_) | (refine wpList_load_row rfl 45 (.tmp 11) rfl w1.heap.size rfl 45 (pkA .u8 q m1) (0, 0) _ HAD0.out Tryd.underlying45 rfl ppk_size ?_) | (fail))
      refine CA.out.mono ?_
      rintro e w2 ⟨rfl, b3⟩
      have b4 : Below wr.heap.size wr w2 := HBR.out.trans (b3.mono HBR.out.size)
      have hS2 := hS.out.below b4
      have hB2 : Below W.heap.size W w2 := hBw.out.trans (b4.mono hBw.out.size)
      have HS2 := Lib.hid hS2
      have HB2 := Lib.hid hB2
      clear b3 b4 hS2 hB2 hS hBw HBR HAB HBC HAD HBC0 HAD0 CA HTd hWa hWb hWc hWd
      by_cases hc0 : cd = 0
      · subst hc0
        have hsb := pkS_bd6 HCD.out
        rw [HSq.out] at hsb
        have hadd : ¬ 9223372036854775807 < sx.size + s.size := by omega
        obtain ⟨sx2, hsx2⟩ : ∃ y, sx ++ s = y := ⟨_, rfl⟩
        have hz2 : sx2.size ≤ 65541 * (i + 1) := by rw [← hsx2, ByteArray.size_append]; omega
        have HSX2 : Hid (sx2 = catB ((G ++ [q]).map pkS)) := Lib.hid (by rw [List.map_append, show [q].map pkS = [pkS q] from rfl, catK_snoc, ← hSX.out, HSq.out, hsx2])
        have HG2 : Hid (∀ q' ∈ G ++ [q], pkC q' = 0) := Lib.hid (fun q' hq' => by
          rcases List.mem_append.1 hq' with h | h
          · exact hG.out q' h
          · obtain rfl := List.mem_singleton.1 h; exact HCD.out)
        obtain ⟨U, hU⟩ : ∃ U, w2.alloc (.cells #[.string s] 9) = U := ⟨_, rfl⟩
        have hub : Blk U w2.heap.size #[.string s] 9 := by rw [← hU]; exact Blk.new _ _ _
        have bu : Below w2.heap.size w2 U := by rw [← hU]; exact (Below.refl _ _).alloc (Nat.le_refl _) _
        have HUB := Lib.hid hub
        have HSU := Lib.hid (HS2.out.below bu)
        have HBU := Lib.hid (HB2.out.trans (bu.mono HB2.out.size))
        have hBu : W.heap.size ≤ U.heap.size := HBU.out.size
        have hln : (G.map pkS).length ≤ 1048576 := by rw [List.length_map]; omega
        have hmap : (G.map pkS) ++ [s] = (G ++ [q]).map pkS := by rw [List.map_append, ← HSq.out]; rfl
        have HMAP := Lib.hid hmap
        clear hub bu hmap HS2 HB2 hSX hG hsb
        go_wp2_with (first | (refine wpList_sstr (.tmp 50) (.tmp 52) W.heap.size _ (G.map pkS) s w2.heap.size rfl rfl rfl rfl HSU.out HUB.out hBu hln ?_; intro pv2 wf hpf hgf hof hor) | (fail))
        have hbf : Below W.heap.size W wf := HBU.out.grown hgf hBu (fun k hk => hof k hk)
        rw [HMAP.out] at hpf
        have HPF := Lib.hid hpf
        have HBF := Lib.hid hbf
        clear hbf hpf hgf hof hor HUB HSU HBU hBu hln hU HMAP
        go_wp2_with fail
        go_roundw
        case rel => exact ⟨i + 1, G ++ [q], sx2, by go_num, by have := II.out; omega, rfl, hz2, by rw [List.length_append]; show G.length + 1 ≤ i + 1; omega, HSX2, HG2, HPF, HBF⟩
        case measure => have := II.out; simp [intOf]; omega
      · have z0 : (cd == 0) = false := beq_eq_false_iff_ne.2 hc0
        clear hc0
        go_wp2_with fail
        go_roundw
        case rel => exact ⟨i + 1, G, sx, by go_num, by have := II.out; omega, rfl, by omega, by omega, hSX, hG, HS2, HB2⟩
        case measure => have := II.out; simp [intOf]; omega
    · obtain rfl : i = m := by omega
      have hnn : ¬ ((i : Int) < (i : Int)) := by omega
      have hWr : W.heap.size ≤ wr.heap.size := hBw.out.size
      have hLB := HB.out.of_below hBw.out
      have HLB := Lib.hid hLB
      have CPK := Lib.hid (packets_n6 x.p x.m wr (HPX.out.below hBw.out) HCX.out)
      have HSXk := Lib.hid hSX.out
      clear him hLB
      go_wp2_with (first | (refine wpList_load_row rfl 65 (.tmp 4) rfl w.heap.size rfl 65 (pkA .u8 x.p x.m) (0, 0) _ HLB.out Tryd.underlying65 rfl lpk_size6 ?_) | (fail))
      refine CPK.out.mono ?_
      rintro e w1 ⟨m1, m2, rfl, P1, P2, b2⟩
      unfold pkV
      obtain ⟨q, hq⟩ : ∃ q, cutP x.p = q := ⟨_, rfl⟩
      rw [hq] at P1 P2 ⊢
      obtain ⟨Wa, hWa⟩ : ∃ Wa, w1.alloc (.cells #[.int .i64 0, .bool false, .bool false, .int .i64 0, .int .i64 0, .string ⟨#[]⟩, .string ⟨#[]⟩, .int .u8 0, .slice none 0 0, .slice none 0 0, .string ⟨#[]⟩, .bool false, .int .i64 0, .bool false, .string ⟨#[]⟩, .string ⟨#[]⟩, .int .i64 0, .bool false, .slice none 0 0, .bool false, .bool false, .string ⟨#[]⟩, .string ⟨#[]⟩, .bool false, .slice none 0 0, .slice none 0 0] 45) = Wa := ⟨_, rfl⟩
      have haa : Blk Wa w1.heap.size #[.int .i64 0, .bool false, .bool false, .int .i64 0, .int .i64 0, .string ⟨#[]⟩, .string ⟨#[]⟩, .int .u8 0, .slice none 0 0, .slice none 0 0, .string ⟨#[]⟩, .bool false, .int .i64 0, .bool false, .string ⟨#[]⟩, .string ⟨#[]⟩, .int .i64 0, .bool false, .slice none 0 0, .bool false, .bool false, .string ⟨#[]⟩, .string ⟨#[]⟩, .bool false, .slice none 0 0, .slice none 0 0] 45 := by rw [← hWa]; exact Blk.new _ _ _
      have ba : Below w1.heap.size w1 Wa := by rw [← hWa]; exact (Below.refl _ _).alloc (Nat.le_refl _) _
      obtain ⟨Wb, hWb⟩ : ∃ Wb, Wa.alloc (.cells #[.int .i64 0, .bool false, .bool false, .int .i64 0, .int .i64 0, .string ⟨#[]⟩, .string ⟨#[]⟩, .int .i64 0, .slice none 0 0, .slice none 0 0, .string ⟨#[]⟩, .bool false, .int .i64 0, .bool false, .string ⟨#[]⟩, .string ⟨#[]⟩, .int .i64 0, .bool false, .slice none 0 0, .bool false, .bool false, .string ⟨#[]⟩, .string ⟨#[]⟩, .bool false, .slice none 0 0, .slice none 0 0] 52) = Wb := ⟨_, rfl⟩
      have hab : Blk Wb w1.heap.size #[.int .i64 0, .bool false, .bool false, .int .i64 0, .int .i64 0, .string ⟨#[]⟩, .string ⟨#[]⟩, .int .u8 0, .slice none 0 0, .slice none 0 0, .string ⟨#[]⟩, .bool false, .int .i64 0, .bool false, .string ⟨#[]⟩, .string ⟨#[]⟩, .int .i64 0, .bool false, .slice none 0 0, .bool false, .bool false, .string ⟨#[]⟩, .string ⟨#[]⟩, .bool false, .slice none 0 0, .slice none 0 0] 45 := by rw [← hWb]; exact haa.alloc _
      have hbb : Blk Wb Wa.heap.size #[.int .i64 0, .bool false, .bool false, .int .i64 0, .int .i64 0, .string ⟨#[]⟩, .string ⟨#[]⟩, .int .i64 0, .slice none 0 0, .slice none 0 0, .string ⟨#[]⟩, .bool false, .int .i64 0, .bool false, .string ⟨#[]⟩, .string ⟨#[]⟩, .int .i64 0, .bool false, .slice none 0 0, .bool false, .bool false, .string ⟨#[]⟩, .string ⟨#[]⟩, .bool false, .slice none 0 0, .slice none 0 0] 52 := by rw [← hWb]; exact Blk.new _ _ _
      have bb : Below w1.heap.size w1 Wb := by rw [← hWb]; exact ba.alloc ba.size _
      have gab : w1.heap.size < Wa.heap.size := haa.lt
      obtain ⟨Wc, hWc⟩ : ∃ Wc, Wb.setRow w1.heap.size (pkA .u8 q m1) = Wc := ⟨_, rfl⟩
      have hac : Blk Wc w1.heap.size (pkA .u8 q m1) 45 := by rw [← hWc]; exact hab.row _
      have hbc : Blk Wc Wa.heap.size #[.int .i64 0, .bool false, .bool false, .int .i64 0, .int .i64 0, .string ⟨#[]⟩, .string ⟨#[]⟩, .int .i64 0, .slice none 0 0, .slice none 0 0, .string ⟨#[]⟩, .bool false, .int .i64 0, .bool false, .string ⟨#[]⟩, .string ⟨#[]⟩, .int .i64 0, .bool false, .slice none 0 0, .bool false, .bool false, .string ⟨#[]⟩, .string ⟨#[]⟩, .bool false, .slice none 0 0, .slice none 0 0] 52 := by rw [← hWc]; exact hbb.row_ (by omega) _
      have bc : Below w1.heap.size w1 Wc := by rw [← hWc]; exact below_setRow bb (by omega) _
      obtain ⟨Wd, hWd⟩ : ∃ Wd, Wc.setRow Wa.heap.size (pkA .i64 q m2) = Wd := ⟨_, rfl⟩
      have had : Blk Wd w1.heap.size (pkA .u8 q m1) 45 := by rw [← hWd]; exact hac.row_ (by omega) _
      have bd : Below w1.heap.size w1 Wd := by rw [← hWd]; exact below_setRow bc (by omega) _
      have HAB := Lib.hid hab
      have HBC := Lib.hid hbc
      have HAD := Lib.hid had
      have HBC0 : Hid (Blk (Wb.setRow w1.heap.size (pkA .u8 q m1)) Wa.heap.size #[.int .i64 0, .bool false, .bool false, .int .i64 0, .int .i64 0, .string ⟨#[]⟩, .string ⟨#[]⟩, .int .i64 0, .slice none 0 0, .slice none 0 0, .string ⟨#[]⟩, .bool false, .int .i64 0, .bool false, .string ⟨#[]⟩, .string ⟨#[]⟩, .int .i64 0, .bool false, .slice none 0 0, .bool false, .bool false, .string ⟨#[]⟩, .string ⟨#[]⟩, .bool false, .slice none 0 0, .slice none 0 0] 52) := Lib.hid (by rw [hWc]; exact hbc)
      have HAD0 : Hid (Blk ((Wb.setRow w1.heap.size (pkA .u8 q m1)).setRow Wa.heap.size (pkA .i64 q m2)) w1.heap.size (pkA .u8 q m1) 45) := Lib.hid (by rw [hWc, hWd]; exact had)
      clear haa ba hab hbb bb gab hac hbc bc had
      have hbr : Below wr.heap.size wr Wd := b2.trans (bd.mono b2.size)
      have HTd := Lib.hid ((HT.out.below hBw.out).below hbr)
      have CA := wput_any q m1 Wd (P1.below bd) HTd.out
      unfold PkPut at CA
      obtain ⟨cd, hcd⟩ : ∃ c, pkC q = c := ⟨_, rfl⟩
      obtain ⟨s, hs⟩ : ∃ s, pkS q = s := ⟨_, rfl⟩
      rw [hcd, hs] at CA
      have CA := Lib.hid CA
      have HCD := Lib.hid hcd
      have HSq := Lib.hid hs
      have HBR := Lib.hid hbr
      clear hbr P1 P2 hq hs hcd b2 bd HLB CPK
      go_wp2_with (first | (refine wpList_store_rowTo rfl 45 (.tmp 15) (.tmp 58) rfl rfl w1.heap.size (pkA .u8 q m1) rfl rfl 45 #[.int .i64 0, .bool false, .bool false, .int .i64 0, .int .i64 0, .string ⟨#[]⟩, .string ⟨#[]⟩, .int .u8 0, .slice none 0 0, .slice none 0 0, .string ⟨#[]⟩, .bool false, .int .i64 0, .bool false, .string ⟨#[]⟩, .string ⟨#[]⟩, .int .i64 0, .bool false, .slice none 0 0, .bool false, .bool false, .string ⟨#[]⟩, .string ⟨#[]⟩, .bool false, .slice none 0 0, .slice none 0 0] HAB.out ppk_size rfl (pkA_oneP _ _ _) ?_) | (refine wpList_store_rowTo rfl 52 (.tmp 16) (.tmp 59) rfl rfl Wa.heap.size (pkA .i64 q m2) rfl rfl 52 #[.int .i64 0, .bool false, .bool false, .int .i64 0, .int .i64 0, .string ⟨#[]⟩, .string ⟨#[]⟩, .int .i64 0, .slice none 0 0, .slice none 0 0, .string ⟨#[]⟩, .bool false, .int .i64 0, .bool false, .string ⟨#[]⟩, .string ⟨#[]⟩, .int .i64 0, .bool false, .slice none 0 0, .bool false, .bool false, .string ⟨#[]⟩, .string ⟨#[]⟩, .bool false, .slice none 0 0, .slice none 0 0] HBC.out rpk_size' rfl (pkA_oneP _ _ _) ?_) | (refine wpList_store_rowTo rfl 52 (.tmp 16) (.tmp 59) rfl rfl Wa.heap.size (pkA .i64 q m2) rfl rfl 52 #[.int .i64 0, .bool false, .bool false, .int .i64 0, .int .i64 0, .string ⟨#[]⟩, .string ⟨#[]⟩, .int .i64 0, .slice none 0 0, .slice none 0 0, .string ⟨#[]⟩, .bool false, .int .i64 0, .bool false, .string ⟨#[]⟩, .string ⟨#[]⟩, .int .i64 0, .bool false, .slice none 0 0, .bool false, .bool false, .string ⟨#[]⟩, .string ⟨#[]⟩, .bool false, .slice none 0 0, .slice none 0 0] HBC0.out rpk_size' rfl (pkA_oneP _ _ _) ?_) | (refine wpList_load_row rfl 45 (.tmp 15) rfl w1.heap.size rfl 45 (pkA .u8 q m1) (0, 0) _ HAD.out Tryd.underlying45 rfl ppk_size ?_) | (refine wpList_load_row rfl 45 (.tmp 15) rfl w1.heap.size rfl 45 (pkA .u8 q m1) (0, 0) _ HAD0.out Tryd.underlying45 rfl ppk_size ?_) | (fail))
      refine CA.out.mono ?_
      rintro e w9 ⟨rfl, b3⟩
      have b4 : Below wr.heap.size wr w9 := HBR.out.trans (b3.mono HBR.out.size)
      have hS9 := hS.out.below b4
      obtain ⟨A8, cap8, rfl, hc8, hcm8, -⟩ := hS9.form
      have HS9 := Lib.hid hS9
      have BB9 : Hid (Below w.heap.size w w9) := Lib.hid (B1.out.trans ((hBw.out.trans (b4.mono hBw.out.size)).mono B1.out.size))
      have HT9 := Lib.hid ((HT.out.below hBw.out).below b4)
      have HG := hG
      have HSX := HSXk
      clear b3 b4 hS9 hS hBw HBR HAB HBC HAD HBC0 HAD0 CA HTd hWa hWb hWc hWd hSX HSXk
      by_cases hc0 : cd = 0
      · subst hc0
        have hsb := pkS_bd6 HCD.out
        rw [HSq.out] at hsb
        obtain ⟨hs2, hs1⟩ := hsb
        obtain ⟨d, hd⟩ : ∃ d : Nat, max (0 : Int) cut = d := ⟨(max 0 cut).toNat, by omega⟩
        have hd2 : (d : Int) ≤ 9223372036854775807 := by omega
        have hq0 := Nat.mod_lt d (show 0 < s.size by omega)
        obtain ⟨k, hk⟩ : ∃ k, d % s.size = k := ⟨_, rfl⟩
        rw [hk] at hq0
        have hqI : (d : Int) % (s.size : Int) = (k : Int) := by rw [← hk]; simp
        have hq1 : (k : Int) ≤ (s.size : Int) := by omega
        have hsz0 : ((s.size : Int) == 0) = false := by rw [beq_eq_false_iff_ne]; omega
        have hsp0 : (0 : Int) < (s.size : Int) := by omega
        have hts := sp_tail HCD.out (c := k) (by rw [HSq.out]; exact hq0)
        rw [HSq.out] at hts
        obtain ⟨tt, htt⟩ : ∃ tt, s.extract 0 k = tt := ⟨_, rfl⟩
        rw [htt] at hts
        have HTS := Lib.hid hts
        have htz : tt.size ≤ 65541 := by rw [← htt, ByteArray.size_extract]; omega
        clear hk hts hd2
        go_wp2_with fail
        refine (snew_any 65541 _).mono ?_
        rintro e w10 ⟨rfl, hb10, b10⟩
        have HN := Lib.hid (NoTab.new HT9.out (Nat.le_refl w9.heap.size))
        have HB10 := Lib.hid hb10
        have BB10 := Lib.hid (BB9.out.trans (b10.mono BB9.out.size))
        have HT10 := Lib.hid (HT9.out.below b10)
        have HS10 := Lib.hid (HS9.out.below b10)
        clear hb10 b10
        have CF := Lib.hid (sfeed_any w9.heap.size 65541 ⟨#[]⟩ (sx ++ tt) w10 HB10.out (by decide) (by decide) (by rw [ByteArray.size_append]; show 0 + _ ≤ _; omega) HT10.out)
        have hadd : ¬ 9223372036854775807 < sx.size + tt.size := by omega
        have hfa := feed_all (y := tt) HG.out HTS.out
        rw [← HSX.out] at hfa
        rw [nil_app] at CF
        have HFA := Lib.hid hfa
        have hff := feed_fits 65541 (sx ++ tt)
        rw [hfa.1] at hff
        have HFF := Lib.hid hff
        clear hfa hff
        go_wp2_with fail
        refine CF.out.mono ?_
        rintro e w11 ⟨v11, rfl, p11, hb11, m11⟩
        rw [HFA.out.1] at p11
        rw [HFA.out.2.1, HFA.out.2.2] at hb11
        rw [HFA.out.2.1]
        obtain ⟨A11, cap11, rfl, hc11, hcm11⟩ := p11.form
        rw [List.length_map] at hc11
        have p11 : PksAt w10.heap.size w11 (.slice A11 G.length cap11) (G.map cn) := by have hh := p11; rw [List.length_map] at hh; exact hh
        simp only [List.length_map]
        have hwn : w9.heap.size ≤ w10.heap.size := by have := HB10.out.lt; omega
        have HS11 := Lib.hid (HS10.out.mod1 HB10.out (by decide) m11)
        have BB11 := Lib.hid (BB10.out.trans (m11.below (B := w.heap.size) BB10.out.size (fun k hk => by subst hk; exact BB9.out.size)))
        have HT11 := Lib.hid (tabs_mod HT10.out m11 HN.out)
        have HB11 := Lib.hid hb11
        have HP11 := Lib.hid p11
        clear p11 hb11 m11 HB10 HS10 HT10 BB10 CF hadd
        go_wp2_with fail
        refine (swakes_any _ HT11.out).mono ?_
        rintro e w12 ⟨rfl, b12⟩
        have HB12 := Lib.hid (HB11.out.of_below b12)
        have HS12 := Lib.hid (HS11.out.below b12)
        have HP12 := Lib.hid (HP11.out.below b12)
        have BB12 := Lib.hid (BB11.out.trans (b12.mono BB11.out.size))
        have HT12 := Lib.hid (HT11.out.below b12)
        clear b12 HB11 HS11 HP11
        go_wp2_with fail
        refine (sleft_any w9.heap.size 65541 tt 0 w12 HB12.out).mono ?_
        rintro e w13 ⟨rfl, b13⟩
        have HS13 := Lib.hid (HS12.out.below b13)
        have HP13 := Lib.hid (HP12.out.below b13)
        have BB13 := Lib.hid (BB12.out.trans (b13.mono BB12.out.size))
        have HT13 := Lib.hid (HT12.out.below b13)
        have ftt : ((tt : ByteArray).toList == tt.toList) = true := by simp
        clear b13 HB12 HS12 HP12
        go_wp2_with fail
        go_loopw [109] (fun jv wq => ∃ (j : Nat), jv = .int .i64 j ∧ j ≤ G.length ∧ Hid (PksAt w10.heap.size wq (.slice A11 G.length cap11) (G.map cn)) ∧ Hid (VRow wq A8 ((G.map pkS).map Value.string)) ∧ Hid (Tabs wq) ∧ Hid (Below w.heap.size w wq)) (fun jv _ => ((G.length : Int) - intOf jv).toNat)
        case atStart => exact ⟨0, rfl, Nat.zero_le _, HP13, Lib.hid HS13.out.vrow, HT13, BB13⟩
        case round =>
          obtain ⟨j, rfl, hj, hP, hV, hTT, hB⟩ := hrel
          by_cases hjl : j < G.length
          · obtain ⟨q, hq⟩ : ∃ q, G[j]? = some q := ⟨_, List.getElem?_eq_getElem hjl⟩
            obtain ⟨g, o2, mm, e1, hrange, hpo⟩ := hP.out.at (j := j) (p := cn q) (by rw [List.getElem?_map, hq]; rfl)
            obtain ⟨g8, o8, e8, hl8, hcl8⟩ := hV.out (by rw [List.length_map, List.length_map]; omega)
            subst e1 e8
            have k8 := hcl8 j (.string (pkS q)) (by rw [List.getElem?_map, List.getElem?_map, hq]; rfl)
            have hq0 := HG.out q (List.mem_of_getElem? hq)
            have hfq := HFF.out (cn q) (List.mem_map.2 ⟨q, List.mem_of_getElem? hq, rfl⟩)
            have CP := wput_any (cn q) mm wr (hpo.pkin hfq) hTT.out
            unfold PkPut at CP
            rw [(cn_pk hq0).1, (cn_pk hq0).2] at CP
            have CP := Lib.hid CP
            have HRG := Lib.hid hrange
            have JI : Hid (j < G.length) := Lib.hid hjl
            have jI : (j : Int) < (G.length : Int) := by omega
            obtain ⟨ps, hps⟩ : ∃ x, pkS q = x := ⟨_, rfl⟩
            rw [hps] at k8 CP
            have fps : (ps.toList == ps.toList) = true := by simp
            have K8 : Hid (g8 < wr.heap.size) := Lib.hid hl8
            clear hq hrange hpo hcl8 hl8 hq0 hfq hps hjl
            go_wp2_with (first | (refine wpList_load_pk (.tmp 115) g (o2 + j * 26) (cn q) mm rfl rfl rfl HRG.out ?_) | (fail))
            refine CP.out.mono ?_
            rintro e wn ⟨rfl, bn⟩
            have k8n : wn.cell? ⟨g8, o8 + j, none⟩ = some (.string ps) := (bn.cell (p := ⟨g8, o8 + j, none⟩) K8.out).trans k8
            have HPn := Lib.hid (hP.out.below bn)
            have HVn := Lib.hid (hV.out.below bn)
            have HTn := Lib.hid (hTT.out.below bn)
            have HBn := Lib.hid (hB.out.trans (bn.mono hB.out.size))
            clear bn k8 HRG CP hP hV hTT hB
            go_wp2
            go_roundw
            case rel => exact ⟨j + 1, by go_num, by have := JI.out; omega, HPn, HVn, HTn, HBn⟩
            case measure => have := JI.out; simp [intOf]; omega
          · obtain rfl : j = G.length := by omega
            have hnn : ¬ ((G.length : Int) < (G.length : Int)) := by omega
            go_wp2
            go_ret
            exact ⟨rfl, hB.out⟩
      · obtain rfl : s = ⟨#[]⟩ := by rw [← HSq.out]; unfold pkS; rw [if_neg (by rw [HCD.out]; exact hc0)]
        have z0 : (cd == 0) = false := beq_eq_false_iff_ne.2 hc0
        have HTS : Hid (sp 65541 (⟨#[]⟩ : ByteArray) = ([], ⟨#[]⟩, 0)) := Lib.hid (split_end rfl)
        have htz : (⟨#[]⟩ : ByteArray).size = 0 := rfl
        have HTZ := Lib.hid htz
        clear hc0 htz
        go_wp2_with fail
        refine (snew_any 65541 _).mono ?_
        rintro e w10 ⟨rfl, hb10, b10⟩
        have HN := Lib.hid (NoTab.new HT9.out (Nat.le_refl w9.heap.size))
        have HB10 := Lib.hid hb10
        have BB10 := Lib.hid (BB9.out.trans (b10.mono BB9.out.size))
        have HT10 := Lib.hid (HT9.out.below b10)
        have HS10 := Lib.hid (HS9.out.below b10)
        clear hb10 b10
        have CF := Lib.hid (sfeed_any w9.heap.size 65541 ⟨#[]⟩ (sx ++ (⟨#[]⟩ : ByteArray)) w10 HB10.out (by decide) (by decide) (by rw [ByteArray.size_append, HTZ.out]; show 0 + (sx.size + 0) ≤ _; omega) HT10.out)
        have hadd : ¬ 9223372036854775807 < sx.size + (⟨#[]⟩ : ByteArray).size := by rw [HTZ.out]; omega
        have hfa := feed_all (y := (⟨#[]⟩ : ByteArray)) HG.out HTS.out
        rw [← HSX.out] at hfa
        rw [nil_app] at CF
        have HFA := Lib.hid hfa
        have hff := feed_fits 65541 (sx ++ (⟨#[]⟩ : ByteArray))
        rw [hfa.1] at hff
        have HFF := Lib.hid hff
        clear hfa hff
        go_wp2_with fail
        refine CF.out.mono ?_
        rintro e w11 ⟨v11, rfl, p11, hb11, m11⟩
        rw [HFA.out.1] at p11
        rw [HFA.out.2.1, HFA.out.2.2] at hb11
        rw [HFA.out.2.1]
        obtain ⟨A11, cap11, rfl, hc11, hcm11⟩ := p11.form
        rw [List.length_map] at hc11
        have p11 : PksAt w10.heap.size w11 (.slice A11 G.length cap11) (G.map cn) := by have hh := p11; rw [List.length_map] at hh; exact hh
        simp only [List.length_map]
        have hwn : w9.heap.size ≤ w10.heap.size := by have := HB10.out.lt; omega
        have HS11 := Lib.hid (HS10.out.mod1 HB10.out (by decide) m11)
        have BB11 := Lib.hid (BB10.out.trans (m11.below (B := w.heap.size) BB10.out.size (fun k hk => by subst hk; exact BB9.out.size)))
        have HT11 := Lib.hid (tabs_mod HT10.out m11 HN.out)
        have HB11 := Lib.hid hb11
        have HP11 := Lib.hid p11
        clear p11 hb11 m11 HB10 HS10 HT10 BB10 CF hadd
        go_wp2_with fail
        refine (swakes_any _ HT11.out).mono ?_
        rintro e w12 ⟨rfl, b12⟩
        have HB12 := Lib.hid (HB11.out.of_below b12)
        have HS12 := Lib.hid (HS11.out.below b12)
        have HP12 := Lib.hid (HP11.out.below b12)
        have BB12 := Lib.hid (BB11.out.trans (b12.mono BB11.out.size))
        have HT12 := Lib.hid (HT11.out.below b12)
        clear b12 HB11 HS11 HP11
        go_wp2_with fail
        refine (sleft_any w9.heap.size 65541 (⟨#[]⟩ : ByteArray) 0 w12 HB12.out).mono ?_
        rintro e w13 ⟨rfl, b13⟩
        have HS13 := Lib.hid (HS12.out.below b13)
        have HP13 := Lib.hid (HP12.out.below b13)
        have BB13 := Lib.hid (BB12.out.trans (b13.mono BB12.out.size))
        have HT13 := Lib.hid (HT12.out.below b13)
        have ftt : (((⟨#[]⟩ : ByteArray) : ByteArray).toList == (⟨#[]⟩ : ByteArray).toList) = true := by simp
        clear b13 HB12 HS12 HP12
        go_wp2_with fail
        go_loopw [109] (fun jv wq => ∃ (j : Nat), jv = .int .i64 j ∧ j ≤ G.length ∧ Hid (PksAt w10.heap.size wq (.slice A11 G.length cap11) (G.map cn)) ∧ Hid (VRow wq A8 ((G.map pkS).map Value.string)) ∧ Hid (Tabs wq) ∧ Hid (Below w.heap.size w wq)) (fun jv _ => ((G.length : Int) - intOf jv).toNat)
        case atStart => exact ⟨0, rfl, Nat.zero_le _, HP13, Lib.hid HS13.out.vrow, HT13, BB13⟩
        case round =>
          obtain ⟨j, rfl, hj, hP, hV, hTT, hB⟩ := hrel
          by_cases hjl : j < G.length
          · obtain ⟨q, hq⟩ : ∃ q, G[j]? = some q := ⟨_, List.getElem?_eq_getElem hjl⟩
            obtain ⟨g, o2, mm, e1, hrange, hpo⟩ := hP.out.at (j := j) (p := cn q) (by rw [List.getElem?_map, hq]; rfl)
            obtain ⟨g8, o8, e8, hl8, hcl8⟩ := hV.out (by rw [List.length_map, List.length_map]; omega)
            subst e1 e8
            have k8 := hcl8 j (.string (pkS q)) (by rw [List.getElem?_map, List.getElem?_map, hq]; rfl)
            have hq0 := HG.out q (List.mem_of_getElem? hq)
            have hfq := HFF.out (cn q) (List.mem_map.2 ⟨q, List.mem_of_getElem? hq, rfl⟩)
            have CP := wput_any (cn q) mm wr (hpo.pkin hfq) hTT.out
            unfold PkPut at CP
            rw [(cn_pk hq0).1, (cn_pk hq0).2] at CP
            have CP := Lib.hid CP
            have HRG := Lib.hid hrange
            have JI : Hid (j < G.length) := Lib.hid hjl
            have jI : (j : Int) < (G.length : Int) := by omega
            obtain ⟨ps, hps⟩ : ∃ x, pkS q = x := ⟨_, rfl⟩
            rw [hps] at k8 CP
            have fps : (ps.toList == ps.toList) = true := by simp
            have K8 : Hid (g8 < wr.heap.size) := Lib.hid hl8
            clear hq hrange hpo hcl8 hl8 hq0 hfq hps hjl
            go_wp2_with (first | (refine wpList_load_pk (.tmp 115) g (o2 + j * 26) (cn q) mm rfl rfl rfl HRG.out ?_) | (fail))
            refine CP.out.mono ?_
            rintro e wn ⟨rfl, bn⟩
            have k8n : wn.cell? ⟨g8, o8 + j, none⟩ = some (.string ps) := (bn.cell (p := ⟨g8, o8 + j, none⟩) K8.out).trans k8
            have HPn := Lib.hid (hP.out.below bn)
            have HVn := Lib.hid (hV.out.below bn)
            have HTn := Lib.hid (hTT.out.below bn)
            have HBn := Lib.hid (hB.out.trans (bn.mono hB.out.size))
            clear bn k8 HRG CP hP hV hTT hB
            go_wp2
            go_roundw
            case rel => exact ⟨j + 1, by go_num, by have := JI.out; omega, HPn, HVn, HTn, HBn⟩
            case measure => have := JI.out; simp [intOf]; omega
          · obtain rfl : j = G.length := by omega
            have hnn : ¬ ((G.length : Int) < (G.length : Int)) := by omega
            go_wp2
            go_ret
            exact ⟨rfl, hB.out⟩
end Go.Proofs.YtedapgeabpadaaaDoor
