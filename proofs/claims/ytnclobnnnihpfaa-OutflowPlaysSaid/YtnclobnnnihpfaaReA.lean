/- The document's flow (aqueductref14): bound, New; a message's packet. -/
import Derived.Test.YtnclobnnnihpfaaRdX
namespace Go.Proofs.Ytnclobnnnihpfaa
set_option linter.unusedVariables false
open Go.RowKit Go.Maps

/-- A packet's cells. -/
def rpkA (k : Int) (dup ret : Bool) (q id : Int) (topic payload : ByteArray) (pv : Value) : Array Value :=
  #[.int .i64 k, .bool dup, .bool ret, .int .i64 q, .int .i64 id, .string topic, .string payload, .int .i64 0, .slice none 0 0, pv, .string ⟨#[]⟩, .bool false, .int .i64 0, .bool false, .string ⟨#[]⟩, .string ⟨#[]⟩, .int .i64 0, .bool false, .slice none 0 0, .bool false, .bool false, .string ⟨#[]⟩, .string ⟨#[]⟩, .bool false, .slice none 0 0, .slice none 0 0]
/-- A message's property. -/
def RPvAt (B : Nat) (w : World) (tag : ByteArray) (pv : Value) : Prop := (tag.size = 0 ∧ pv = .slice none 0 0) ∨ (tag.size ≠ 0 ∧ ∃ g, B ≤ g ∧ pv = .slice (some ⟨g, 0, none⟩) 1 1 ∧ Blk w g #[.int .i64 38, .int .i64 0, .string ⟨#[116, 97, 103]⟩, .string tag] 107)
def ropA (p : OP) (pv : Value) : Array Value := match p with
  | .pub m id dup => rpkA 3 dup m.retain m.qos id m.topic m.payload pv
  | .rel id => rpkA 6 false false 0 id ⟨#[]⟩ ⟨#[]⟩ pv
def ROpAt (B : Nat) (w : World) (p : OP) (pv : Value) : Prop := match p with
  | .pub m _ _ => RPvAt B w m.tag pv
  | .rel _ => pv = .slice none 0 0
theorem rpk_one (k : Int) (dup ret : Bool) (q id : Int) (topic payload : ByteArray) (pv : Value) (h : pv.oneCell' = true) : (rpkA k dup ret q id topic payload pv).all (·.oneCell') = true := by simp [rpkA]; simp [Value.oneCell']; exact h
theorem dpk_size : (Try.prog.info? 56).map (·.size) = some 26 := by kernel_rfl
def rzpk : Array Value := rpkA 0 false false 0 0 ⟨#[]⟩ ⟨#[]⟩ (.slice none 0 0)
theorem rpk_world (w : World) (m : OM) (cs : Array Value) (Z : World) (h : (((w.alloc (.cells (omA m) 82)).alloc (.cells rzpk 56)).alloc (.cells rzpk 56)).setRow (w.heap.size + 2) cs = Z) :
    Blk Z w.heap.size (omA m) 82 ∧ Blk Z (w.heap.size + 1) rzpk 56 ∧ Blk Z (w.heap.size + 2) cs 56 ∧ Below w.heap.size w Z ∧ Z.heap.size = w.heap.size + 3 := by
  subst h
  have b1 := ((blk_at w (omA m) 82 rfl).alloc (.cells rzpk 56)).alloc (.cells rzpk 56)
  have b2 := (blk_at (w.alloc (.cells (omA m) 82)) rzpk 56 (b := w.heap.size + 1) (by simp)).alloc (.cells rzpk 56)
  have b3 := blk_at ((w.alloc (.cells (omA m) 82)).alloc (.cells rzpk 56)) rzpk 56 (b := w.heap.size + 2) (by simp)
  exact ⟨b1.setRow_other (by omega), b2.setRow_other (by omega), b3.setRow, below_setRow ((((Below.refl _ _).alloc (Nat.le_refl _) _).alloc (by simp) _).alloc (by simp; omega) _) (by omega) _, by simp⟩
set_option maxHeartbeats 1000000 in
set_option maxRecDepth 100000 in
theorem rpub_any (m : OM) (id : Int) (dup : Bool) (w : World) : Calls Try.prog 37 #[.agg (omA m), .int .i64 id, .bool dup] w fun e w' => ∃ pv, e = .returned (.agg (rpkA 3 dup m.retain m.qos id m.topic m.payload pv)) ∧ RPvAt w.heap.size w' m.tag pv ∧ Below w.heap.size w w' := by
  have HW := Lib.hid (rpk_world w m (rpkA 3 dup m.retain m.qos id m.topic m.payload (.slice none 0 0)) _ rfl)
  have HZ := Lib.hid (blk_at ((w.alloc (.cells (omA m) 82)).alloc (.cells rzpk 56)) rzpk 56 (b := w.heap.size + 2) (by simp))
  obtain ⟨Z, hZ⟩ : ∃ Z, (((w.alloc (.cells (omA m) 82)).alloc (.cells rzpk 56)).alloc (.cells rzpk 56)).setRow (w.heap.size + 2) (rpkA 3 dup m.retain m.qos id m.topic m.payload (.slice none 0 0)) = Z := ⟨_, rfl⟩
  have hW := rpk_world w m _ Z hZ
  have HE := Lib.hid hZ
  clear hZ HW
  obtain ⟨hm, h1, h2, hb, hsz⟩ := hW
  have HM := Lib.hid hm
  have H1 := Lib.hid h1
  have H2 := Lib.hid h2
  have HB := Lib.hid hb
  have HS := Lib.hid hsz
  have m4 := hm.cell 4
  clear hm h1 h2 hb hsz
  obtain ⟨topic, payload, qos, retain, tag⟩ := m
  unfold omA at m4 HE HZ ⊢
  simp only [List.getElem?_toArray, List.getElem?_cons_zero, List.getElem?_cons_succ] at m4 HE HZ ⊢
  by_cases ht : tag.size = 0
  · obtain rfl : tag = ⟨#[]⟩ := by
      apply ByteArray.ext
      exact Array.eq_empty_of_size_eq_zero ht
    clear ht
    go_enter Try.func37, Try.ntmps37
    go_wp2_with (first | (refine wpList_buildTo rfl 56 _ rfl (some 18) rfl (rpkA 3 dup retain qos id topic payload (.slice none 0 0)) (by kernel_rfl) ?_) | (refine wpList_store_rowZ rfl 56 (.tmp 7) (.tmp 18) rfl rfl (w.heap.size + 2) (rpkA 3 dup retain qos id topic payload (.slice none 0 0)) rfl rfl 56 rzpk HZ.out dpk_size rfl (rpk_one _ _ _ _ _ _ _ _ rfl) Z HE.out ?_) | (refine wpList_load_row rfl 56 (.tmp 7) rfl (w.heap.size + 2) rfl 56 _ (0, 0) _ H2.out Try.underlying56 rfl dpk_size ?_) | (refine wpList_store_rowTo rfl 56 (.tmp 6) (.tmp 28) rfl rfl (w.heap.size + 1) (rpkA 3 dup retain qos id topic payload (.slice none 0 0)) rfl rfl 56 rzpk H1.out dpk_size rfl (rpk_one _ _ _ _ _ _ _ _ rfl) ?_) | (fail))
    exact bodyPost_ret (v := .agg (rpkA 3 dup retain qos id topic payload (.slice none 0 0))) (results_cell_row (p := 6) (ty := 56) (by kernel_rfl) _ _ (w.heap.size + 1) 56 _ (0, 0) _ rfl H1.out.setRow Try.underlying56 rfl dpk_size) rfl ⟨_, rfl, .inl ⟨rfl, rfl⟩, below_setRow HB.out (by omega) _⟩
  · have f9 : (Z.alloc (.cells #[.int .i64 38, .int .i64 0, .string ⟨#[116, 97, 103]⟩, .string tag] 107)).frozen? ⟨w.heap.size + 1 + 1, 9, none⟩ = false := (H2.out.alloc _).frozen 9
    have e9 : (Z.alloc (.cells #[.int .i64 38, .int .i64 0, .string ⟨#[116, 97, 103]⟩, .string tag] 107)).cell? ⟨w.heap.size + 1 + 1, 9, none⟩ = some (.slice none 0 0) := (H2.out.alloc _).cell 9
    have X2 := Lib.hid (show Blk ((Z.alloc (.cells #[.int .i64 38, .int .i64 0, .string ⟨#[116, 97, 103]⟩, .string tag] 107)).setCell ⟨w.heap.size + 1 + 1, 9, none⟩ (.slice (some ⟨Z.heap.size, 0, none⟩) 1 1)) (w.heap.size + 2) (rpkA 3 dup retain qos id topic payload (.slice (some ⟨Z.heap.size, 0, none⟩) 1 1)) 56 from (H2.out.alloc _).set 9 _)
    have X1 := Lib.hid ((H1.out.alloc (.cells #[.int .i64 38, .int .i64 0, .string ⟨#[116, 97, 103]⟩, .string tag] 107)).other (R' := w.heap.size + 1 + 1) (by omega) 9 (.slice (some ⟨Z.heap.size, 0, none⟩) 1 1))
    have X3 := Lib.hid ((blk_at Z #[.int .i64 38, .int .i64 0, .string ⟨#[116, 97, 103]⟩, .string tag] 107 rfl).other (R' := w.heap.size + 1 + 1) (by have := HS.out; omega) 9 (.slice (some ⟨Z.heap.size, 0, none⟩) 1 1))
    have XB := Lib.hid ((HB.out.alloc HB.out.size (.cells #[.int .i64 38, .int .i64 0, .string ⟨#[116, 97, 103]⟩, .string tag] 107)).setCell (p := ⟨w.heap.size + 1 + 1, 9, none⟩) (by simp only; omega) (.slice (some ⟨Z.heap.size, 0, none⟩) 1 1))
    have hne : (0 : Int) < (tag.size : Int) := by omega
    have HT := Lib.hid ht
    clear ht
    go_enter Try.func37, Try.ntmps37
    go_wp2_with (first | (refine wpList_buildTo rfl 56 _ rfl (some 18) rfl (rpkA 3 dup retain qos id topic payload (.slice none 0 0)) (by kernel_rfl) ?_) | (refine wpList_store_rowZ rfl 56 (.tmp 7) (.tmp 18) rfl rfl (w.heap.size + 2) (rpkA 3 dup retain qos id topic payload (.slice none 0 0)) rfl rfl 56 rzpk HZ.out dpk_size rfl (rpk_one _ _ _ _ _ _ _ _ rfl) Z HE.out ?_) | (refine wpList_load_row rfl 56 (.tmp 7) rfl (w.heap.size + 2) rfl 56 _ (0, 0) _ X2.out Try.underlying56 rfl dpk_size ?_) | (refine wpList_store_rowTo rfl 56 (.tmp 6) (.tmp 28) rfl rfl (w.heap.size + 1) (rpkA 3 dup retain qos id topic payload (.slice (some ⟨Z.heap.size, 0, none⟩) 1 1)) rfl rfl 56 rzpk X1.out dpk_size rfl (rpk_one _ _ _ _ _ _ _ _ rfl) ?_) | (fail))
    refine bodyPost_ret (v := .agg (rpkA 3 dup retain qos id topic payload (.slice (some ⟨Z.heap.size, 0, none⟩) 1 1))) (results_cell_row (p := 6) (ty := 56) (by kernel_rfl) _ _ (w.heap.size + 1) 56 _ (0, 0) _ rfl X1.out.setRow Try.underlying56 rfl dpk_size) rfl ⟨_, rfl, .inr ⟨HT.out, Z.heap.size, by have := HS.out; omega, rfl, ?_⟩, ?_⟩
    · exact X3.out.setRow_other (by have := HS.out; omega)
    · exact below_setRow XB.out (by omega) _
set_option maxHeartbeats 1000000 in
theorem rpnew_any (n : Int) (w : World) (h0 : -9223372036854775808 ≤ n) (h1 : n ≤ 9223372036854775807) :
    Calls Try.prog 33 #[.int .i64 n] w fun e w' => e = .returned (.pointer (some ⟨w.heap.size, 0, none⟩)) ∧ w' = w.alloc (.cells #[.int .i64 (bounded n), .int .i64 0, .slice none 0 0] 116) := by
  have HB := Lib.hid (show bounded n = max 1 (min n 64) from rfl)
  by_cases h : n < 1
  · have e : bounded n = 1 := by rw [HB.out]; omega
    rw [e]
    clear HB e
    go_enter Try.func33, Try.ntmps33
    go_wp2
    go_ret
    exact ⟨rfl, rfl⟩
  · by_cases h2 : 64 < n
    · have e : bounded n = 64 := by rw [HB.out]; omega
      rw [e]
      clear HB e
      go_enter Try.func33, Try.ntmps33
      go_wp2
      go_ret
      exact ⟨rfl, rfl⟩
    · have e : bounded n = n := by rw [HB.out]; omega
      rw [e]
      clear HB e
      go_enter Try.func33, Try.ntmps33
      go_wp2
      go_ret
      exact ⟨rfl, rfl⟩
set_option maxHeartbeats 1000000 in
theorem rbound_any (n : Int) (w : World) (h0 : -9223372036854775808 ≤ n) (h1 : n ≤ 9223372036854775807) :
    Calls Try.prog 34 #[.int .i64 n] w fun e w' => e = .returned (.int .i64 (bounded n)) ∧ Below w.heap.size w w' := by
  have CP := fun W => Lib.hid (rpnew_any n W h0 h1)
  have hb := blk_at w #[.int .i64 (bounded n), .int .i64 0, .slice none 0 0] 116 rfl
  have c0 := hb.cell 0
  simp only [List.getElem?_toArray, List.getElem?_cons_zero] at c0
  clear hb
  go_enter Try.func34, Try.ntmps34
  go_wp2_with (first | (go_at_call 33; (with_reducible refine (CP _).out.mono ?_); rintro e w2 ⟨rfl, rfl⟩) | (fail))
  go_ret
  exact ⟨rfl, (Below.refl _ _).alloc (Nat.le_refl _) _⟩
/-- New's result. -/
def RNewPost (n : Int) (w : World) (e : Ending) (w' : World) : Prop := ∃ fp pb, e = .returned (.pointer (some ⟨fp, 0, none⟩)) ∧ DFlowAt w.heap.size fp pb ⟨0, bounded n, false, [], []⟩ w' ∧ Below w.heap.size w w'
set_option maxHeartbeats 1000000 in
theorem rnew_any (n : Int) (w : World) (h0 : -9223372036854775808 ≤ n) (h1 : n ≤ 9223372036854775807) :
    Calls Try.prog 18 #[.int .i64 n] w (RNewPost n w) := by
  have CP := fun W => Lib.hid (rpnew_any 64 W (by omega) (by omega))
  have CB := fun W => Lib.hid (rbound_any n W h0 h1)
  go_enter Try.func18, Try.ntmps18
  go_wp2_with (first | (go_at_call 33; (with_reducible refine (CP _).out.mono ?_); rintro e w2 ⟨rfl, rfl⟩) | (go_at_call 34; (with_reducible refine (CB _).out.mono ?_); rintro e w3 ⟨rfl, hb3⟩; have HB3 := Lib.hid hb3; clear hb3) | (fail))
  go_ret
  have hb2 := (Below.refl w.heap.size w).alloc (Nat.le_refl _) (.cells #[.int .i64 (bounded 64), .int .i64 0, .slice none 0 0] 116)
  have hb3 := hb2.trans (HB3.out.mono hb2.size)
  have hz : w.heap.size < w3.heap.size := by have := HB3.out.size; simp at this; omega
  have hp := (blk_at w #[.int .i64 (bounded 64), .int .i64 0, .slice none 0 0] 116 rfl).of_below HB3.out
  exact ⟨_, _, rfl, ⟨.slice none 0 0, .slice none 0 0, .slice none 0 0, [], FOk.new n, hb3.size, blk_at _ _ _ rfl, Sl.nil _ _ _ _, Sl.nil _ _ _ _, Nat.le_refl _, hp.alloc _, Sl.nil _ _ _ _, List.Perm.refl _⟩, hb3.alloc hb3.size _⟩
end Go.Proofs.Ytnclobnnnihpfaa
