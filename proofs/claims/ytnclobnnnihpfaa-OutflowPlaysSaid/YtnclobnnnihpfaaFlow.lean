/- What is sent to one receiver (outflow.Flow) in memory; New, bounded, a message's packet. -/
import Derived.Test.YtnclobnnnihpfaaPoolW
import Derived.Test.YtnclobnnnihpfaaFlowP
import Derived.Great.BuildSlice
import Derived.Laws.Rows
import Derived.Laws.Tables
import Derived.Laws.CopyOwn
namespace Go.Proofs.Ytnclobnnnihpfaa
set_option linter.unusedVariables false
open Go.RowKit Go.Maps

def omA (m : OM) : Array Value := #[.string m.topic, .string m.payload, .int .i64 m.qos, .bool m.retain, .string m.tag]
def ofA (x : OF) : Array Value := #[.int .i64 x.id, .string x.m.topic, .string x.m.payload, .int .i64 x.m.qos, .bool x.m.retain, .string x.m.tag, .bool x.rel]
def omC (m : OM) : List Value := [.string m.topic, .string m.payload, .int .i64 m.qos, .bool m.retain, .string m.tag]
def ofC (x : OF) : List Value := [.int .i64 x.id, .string x.m.topic, .string x.m.payload, .int .i64 x.m.qos, .bool x.m.retain, .string x.m.tag, .bool x.rel]
def wtL (l : List OM) : List Value := l.flatMap omC
def flL (l : List OF) : List Value := l.flatMap ofC
/-- A packet's cells. -/
def pkA (k : Int) (dup ret : Bool) (q id : Int) (topic payload : ByteArray) (pv : Value) : Array Value :=
  #[.int .i64 k, .bool dup, .bool ret, .int .i64 q, .int .i64 id, .string topic, .string payload, .int .u8 0, .slice none 0 0, pv, .string ⟨#[]⟩, .bool false, .int .i64 0, .bool false, .string ⟨#[]⟩, .string ⟨#[]⟩, .int .i64 0, .bool false, .slice none 0 0, .bool false, .bool false, .string ⟨#[]⟩, .string ⟨#[]⟩, .bool false, .slice none 0 0, .slice none 0 0]
def nilV : Value := .slice none 0 0
/-- A message's property. -/
def PvAt (B : Nat) (w : World) (tag : ByteArray) (pv : Value) : Prop := (tag.size = 0 ∧ pv = .slice none 0 0) ∨ (tag.size ≠ 0 ∧ ∃ g, B ≤ g ∧ pv = .slice (some ⟨g, 0, none⟩) 1 1 ∧ Blk w g #[.int .i64 38, .int .i64 0, .string ⟨#[116, 97, 103]⟩, .string tag] 108)
def opA (p : OP) (pv : Value) : Array Value := match p with
  | .pub m id dup => pkA 3 dup m.retain m.qos id m.topic m.payload pv
  | .rel id => pkA 6 false false 0 id ⟨#[]⟩ ⟨#[]⟩ pv
def OpAt (B : Nat) (w : World) (p : OP) (pv : Value) : Prop := match p with
  | .pub m _ _ => PvAt B w m.tag pv
  | .rel _ => pv = .slice none 0 0
theorem blk_at (w : World) (cs : Array Value) (T : TypeId) {b : Nat} (h : b = w.heap.size) : Blk (w.alloc (.cells cs T)) b cs T := by subst h; exact Blk.new w cs T
theorem Blk.setRow {w : World} {R : Nat} {cs cs' : Array Value} {T : TypeId} (h : Blk w R cs T) : Blk (w.setRow R cs') R cs' T := setRow_heap w R cs cs' T (0, 0) h
theorem Blk.setRow_other {w : World} {R R' : Nat} {cs cs' : Array Value} {T : TypeId} (h : Blk w R cs T) (hn : R ≠ R') : Blk (w.setRow R' cs') R cs T := (Go.setRow_other w R' R cs' hn).trans h
set_option maxHeartbeats 400000 in
theorem bounded_any (n : Int) (w : World) (h0 : -9223372036854775808 ≤ n) (h1 : n ≤ 9223372036854775807) : Calls Try.prog 25 #[.int .i64 n] w fun e w' => e = .returned (.int .i64 (bounded n)) ∧ w = w' := by
  have HB := Lib.hid (show bounded n = max 1 (min n 64) from rfl)
  go_enter Try.func25, Try.ntmps25
  go_wp2
  all_goals
    go_ret
    exact ⟨ret_int (by rw [HB.out]; omega), rfl⟩
theorem pk_one (k : Int) (dup ret : Bool) (q id : Int) (topic payload : ByteArray) (pv : Value) (h : pv.oneCell' = true) : (pkA k dup ret q id topic payload pv).all (·.oneCell') = true := by simp [pkA]; simp [Value.oneCell']; exact h
theorem pk_size : (Try.prog.info? 37).map (·.size) = some 26 := by kernel_rfl
theorem wpList_store_rowZ {P : Program} {ops : Array Oper} {rest : List Oper} {o : Oper} {a : Act} {w : World} {Q : Exit → Act → World → Prop} (hgd : o.guard = none) (ty : TypeId) (x y : Operand) (ho : o.op = .store ty x y)
    (hd : o.dst = none) (g : Nat) (cells : Array Value) (hx : a.eval x = .pointer (some ⟨g, 0, none⟩)) (hy : a.eval y = .agg cells)
    (t : TypeId) (old : Array Value) (hg : w.heap[g]? = some (.cells old t (0, 0))) (hi : (P.info? ty).map (·.size) = some cells.size)
    (hold : old.size = cells.size) (h1 : cells.all (·.oneCell') = true) (Z : World) (hZ : w.setRow g cells = Z)
    (h : wpList P ops Q rest a Z) : wpList P ops Q (o :: rest) a w :=
  wpList_store_rowTo hgd ty x y ho hd g cells hx hy t old hg hi hold h1 (by rw [hZ]; exact h)
def zpk : Array Value := pkA 0 false false 0 0 ⟨#[]⟩ ⟨#[]⟩ (.slice none 0 0)
theorem pk_world (w : World) (m : OM) (cs : Array Value) (Z : World) (h : (((w.alloc (.cells (omA m) 43)).alloc (.cells zpk 37)).alloc (.cells zpk 37)).setRow (w.heap.size + 2) cs = Z) :
    Blk Z w.heap.size (omA m) 43 ∧ Blk Z (w.heap.size + 1) zpk 37 ∧ Blk Z (w.heap.size + 2) cs 37 ∧ Below w.heap.size w Z ∧ Z.heap.size = w.heap.size + 3 := by
  subst h
  have b1 := ((blk_at w (omA m) 43 rfl).alloc (.cells zpk 37)).alloc (.cells zpk 37)
  have b2 := (blk_at (w.alloc (.cells (omA m) 43)) zpk 37 (b := w.heap.size + 1) (by simp)).alloc (.cells zpk 37)
  have b3 := blk_at ((w.alloc (.cells (omA m) 43)).alloc (.cells zpk 37)) zpk 37 (b := w.heap.size + 2) (by simp)
  exact ⟨b1.setRow_other (by omega), b2.setRow_other (by omega), b3.setRow, below_setRow ((((Below.refl _ _).alloc (Nat.le_refl _) _).alloc (by simp) _).alloc (by simp; omega) _) (by omega) _, by simp⟩
set_option maxHeartbeats 1000000 in
set_option maxRecDepth 100000 in
theorem mpacket_any (m : OM) (id : Int) (dup : Bool) (w : World) : Calls Try.prog 31 #[.agg (omA m), .int .i64 id, .bool dup] w fun e w' => ∃ pv, e = .returned (.agg (pkA 3 dup m.retain m.qos id m.topic m.payload pv)) ∧ PvAt w.heap.size w' m.tag pv ∧ Below w.heap.size w w' := by
  have HW := Lib.hid (pk_world w m (pkA 3 dup m.retain m.qos id m.topic m.payload (.slice none 0 0)) _ rfl)
  have HZ := Lib.hid (blk_at ((w.alloc (.cells (omA m) 43)).alloc (.cells zpk 37)) zpk 37 (b := w.heap.size + 2) (by simp))
  obtain ⟨Z, hZ⟩ : ∃ Z, (((w.alloc (.cells (omA m) 43)).alloc (.cells zpk 37)).alloc (.cells zpk 37)).setRow (w.heap.size + 2) (pkA 3 dup m.retain m.qos id m.topic m.payload (.slice none 0 0)) = Z := ⟨_, rfl⟩
  have hW := pk_world w m _ Z hZ
  have HE := Lib.hid hZ
  clear hZ HW
  obtain ⟨hm, h1, h2, hb, hsz⟩ := hW
  have HM := Lib.hid hm
  have H1 := Lib.hid h1
  have H2 := Lib.hid h2
  have HB := Lib.hid hb
  have HS := Lib.hid hsz
  have m4 := hm.cell 4
  clear hm h1 h2 hb hsz
  obtain ⟨topic, payload, qos, retain, tag⟩ := m
  unfold omA at m4 HE HZ ⊢
  simp only [List.getElem?_toArray, List.getElem?_cons_zero, List.getElem?_cons_succ] at m4 HE HZ ⊢
  by_cases ht : tag.size = 0
  · obtain rfl : tag = ⟨#[]⟩ := by
      apply ByteArray.ext
      exact Array.eq_empty_of_size_eq_zero ht
    clear ht
    go_enter Try.func31, Try.ntmps31
    go_wp2_with (first | (refine wpList_buildTo rfl 37 _ rfl (some 18) rfl (pkA 3 dup retain qos id topic payload (.slice none 0 0)) (by kernel_rfl) ?_) | (refine wpList_store_rowZ rfl 37 (.tmp 7) (.tmp 18) rfl rfl (w.heap.size + 2) (pkA 3 dup retain qos id topic payload (.slice none 0 0)) rfl rfl 37 zpk HZ.out pk_size rfl (pk_one _ _ _ _ _ _ _ _ rfl) Z HE.out ?_) | (refine wpList_load_row rfl 37 (.tmp 7) rfl (w.heap.size + 2) rfl 37 _ (0, 0) _ H2.out Try.underlying37 rfl pk_size ?_) | (refine wpList_store_rowTo rfl 37 (.tmp 6) (.tmp 27) rfl rfl (w.heap.size + 1) (pkA 3 dup retain qos id topic payload (.slice none 0 0)) rfl rfl 37 zpk H1.out pk_size rfl (pk_one _ _ _ _ _ _ _ _ rfl) ?_) | (fail))
    exact bodyPost_ret (v := .agg (pkA 3 dup retain qos id topic payload (.slice none 0 0))) (results_cell_row (p := 6) (ty := 37) (by kernel_rfl) _ _ (w.heap.size + 1) 37 _ (0, 0) _ rfl H1.out.setRow Try.underlying37 rfl pk_size) rfl ⟨_, rfl, .inl ⟨rfl, rfl⟩, below_setRow HB.out (by omega) _⟩
  · have f9 : (Z.alloc (.cells #[.int .i64 38, .int .i64 0, .string ⟨#[116, 97, 103]⟩, .string tag] 108)).frozen? ⟨w.heap.size + 1 + 1, 9, none⟩ = false := (H2.out.alloc _).frozen 9
    have e9 : (Z.alloc (.cells #[.int .i64 38, .int .i64 0, .string ⟨#[116, 97, 103]⟩, .string tag] 108)).cell? ⟨w.heap.size + 1 + 1, 9, none⟩ = some (.slice none 0 0) := (H2.out.alloc _).cell 9
    have X2 := Lib.hid (show Blk ((Z.alloc (.cells #[.int .i64 38, .int .i64 0, .string ⟨#[116, 97, 103]⟩, .string tag] 108)).setCell ⟨w.heap.size + 1 + 1, 9, none⟩ (.slice (some ⟨Z.heap.size, 0, none⟩) 1 1)) (w.heap.size + 2) (pkA 3 dup retain qos id topic payload (.slice (some ⟨Z.heap.size, 0, none⟩) 1 1)) 37 from (H2.out.alloc _).set 9 _)
    have X1 := Lib.hid ((H1.out.alloc (.cells #[.int .i64 38, .int .i64 0, .string ⟨#[116, 97, 103]⟩, .string tag] 108)).other (R' := w.heap.size + 1 + 1) (by omega) 9 (.slice (some ⟨Z.heap.size, 0, none⟩) 1 1))
    have X3 := Lib.hid ((blk_at Z #[.int .i64 38, .int .i64 0, .string ⟨#[116, 97, 103]⟩, .string tag] 108 rfl).other (R' := w.heap.size + 1 + 1) (by have := HS.out; omega) 9 (.slice (some ⟨Z.heap.size, 0, none⟩) 1 1))
    have XB := Lib.hid ((HB.out.alloc HB.out.size (.cells #[.int .i64 38, .int .i64 0, .string ⟨#[116, 97, 103]⟩, .string tag] 108)).setCell (p := ⟨w.heap.size + 1 + 1, 9, none⟩) (by simp only; omega) (.slice (some ⟨Z.heap.size, 0, none⟩) 1 1))
    have hne : tag.toList.isEmpty = false := by
      rw [ByteArray.toList_eq]
      cases hc : tag.data.toList with
      | nil => exact absurd (by show tag.data.size = 0; rw [← Array.length_toList, hc]; rfl) ht
      | cons x l => rfl
    have HT := Lib.hid ht
    clear ht
    go_enter Try.func31, Try.ntmps31
    go_wp2_with (first | (refine wpList_buildTo rfl 37 _ rfl (some 18) rfl (pkA 3 dup retain qos id topic payload (.slice none 0 0)) (by kernel_rfl) ?_) | (refine wpList_store_rowZ rfl 37 (.tmp 7) (.tmp 18) rfl rfl (w.heap.size + 2) (pkA 3 dup retain qos id topic payload (.slice none 0 0)) rfl rfl 37 zpk HZ.out pk_size rfl (pk_one _ _ _ _ _ _ _ _ rfl) Z HE.out ?_) | (refine wpList_load_row rfl 37 (.tmp 7) rfl (w.heap.size + 2) rfl 37 _ (0, 0) _ X2.out Try.underlying37 rfl pk_size ?_) | (refine wpList_store_rowTo rfl 37 (.tmp 6) (.tmp 27) rfl rfl (w.heap.size + 1) (pkA 3 dup retain qos id topic payload (.slice (some ⟨Z.heap.size, 0, none⟩) 1 1)) rfl rfl 37 zpk X1.out pk_size rfl (pk_one _ _ _ _ _ _ _ _ rfl) ?_) | (fail))
    refine bodyPost_ret (v := .agg (pkA 3 dup retain qos id topic payload (.slice (some ⟨Z.heap.size, 0, none⟩) 1 1))) (results_cell_row (p := 6) (ty := 37) (by kernel_rfl) _ _ (w.heap.size + 1) 37 _ (0, 0) _ rfl X1.out.setRow Try.underlying37 rfl pk_size) rfl ⟨_, rfl, .inr ⟨HT.out, Z.heap.size, by have := HS.out; omega, rfl, ?_⟩, ?_⟩
    · exact X3.out.setRow_other (by have := HS.out; omega)
    · exact below_setRow XB.out (by omega) _
end Go.Proofs.Ytnclobnnnihpfaa
