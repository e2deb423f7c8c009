/- Parts of the proof, joined: PkL5, Build, Wr. -/
import Derived.Test.YtlnanenfpapfkaaDoorH5P6
import Derived.Great.BuildSlice
import Derived.Laws.CopyOwn
import Derived.Deep.DeepCutAuto
import Derived.Shelf.Strings.BuilderX
import Derived.Lib.Strings
import Derived.Lib.Slices
import Derived.Lib.Walk
import Derived.Lib.Builder
import Derived.Lib.AppendStr
import Derived.Lib.UnsafeStr
import Derived.Lib.MakeNoZero
import Derived.WalkKit
import Derived.Laws.Externs
import Derived.Laws.IdiomCopy
import Derived.Laws.BitsLemmas
import Derived.Test.YtlnanenfpapfkaaDoorProg
import Derived.Test.YtlnanenfpapfkaaDoorH5P4
import Derived.Test.YtlnanenfpapfkaaDoorH5P1
import Derived.Lib.Hide
/- The walk of the laws' packets. -/
set_option linter.unusedVariables false
namespace Go.Proofs.YtlnanenfpapfkaaDoor
open Go.RowKit Pl

theorem own_slice {w : World} {B : Nat} {e : TypeId} {s n : Nat} {v : Value} {xs : List Value} (h : w.ownsRow B e s v n xs) : ∃ A c, v = .slice A n c := by
  rcases h.2 with ⟨rfl, rfl⟩ | ⟨g, cap, cur, rfl, _⟩
  · exact ⟨_, _, rfl⟩
  · exact ⟨_, _, rfl⟩
/-- The packet ahead of its lists. -/
def pk0 (p : Pk) (np nw : Nat) : Pk := { p with ps := p.ps.take (min np 80), wps := p.wps.take (min nw 80), codes := [], subs := [], filters := [] }

theorem take_min80 {α : Type} (L : List α) : L.take (min L.length 80) = L.take 80 := by
  by_cases hl : L.length ≤ 80
  · rw [Nat.min_eq_left hl, List.take_length, List.take_of_length_le hl]
  · rw [Nat.min_eq_right (by omega)]
set_option maxRecDepth 100000 in
set_option maxHeartbeats 16000000 in
theorem packets_any (p : Pk) (Ac Ap Aw As Af : Option Addr) (nc np nw ns nf kc kp kw ks kf : Nat) (w : World) (hP : PkIn .u8 w p ⟨⟨Ac, nc, kc⟩, ⟨Ap, np, kp⟩, ⟨Aw, nw, kw⟩, ⟨As, ns, ks⟩, ⟨Af, nf, kf⟩⟩) (hC : PkCap ⟨⟨Ac, nc, kc⟩, ⟨Ap, np, kp⟩, ⟨Aw, nw, kw⟩, ⟨As, ns, ks⟩, ⟨Af, nf, kf⟩⟩) :
    Calls Tryd.prog 8 #[.agg (pkA .u8 p ⟨⟨Ac, nc, kc⟩, ⟨Ap, np, kp⟩, ⟨Aw, nw, kw⟩, ⟨As, ns, ks⟩, ⟨Af, nf, kf⟩⟩)] w (PkPost w p) := by
  obtain ⟨m, hm⟩ : ∃ m : Hs, ⟨⟨Ac, nc, kc⟩, ⟨Ap, np, kp⟩, ⟨Aw, nw, kw⟩, ⟨As, ns, ks⟩, ⟨Af, nf, kf⟩⟩ = m := ⟨_, rfl⟩
  rw [hm] at hP hC ⊢
  have h0 := Blk.new w (pkA .u8 p m) 29
  have hb0 : Below w.heap.size w (w.alloc (.cells (pkA .u8 p m) 29)) := (Below.refl _ _).alloc (Nat.le_refl _) _
  obtain ⟨W, hW⟩ : ∃ W, ((w.alloc (.cells (pkA .u8 p m) 29)).alloc (.cells #[.int .i64 0, .bool false, .bool false, .int .i64 0, .int .i64 0, .string ⟨#[]⟩, .string ⟨#[]⟩, .int .u8 0, .slice none 0 0, .slice none 0 0, .string ⟨#[]⟩, .bool false, .int .i64 0, .bool false, .string ⟨#[]⟩, .string ⟨#[]⟩, .int .i64 0, .bool false, .slice none 0 0, .bool false, .bool false, .string ⟨#[]⟩, .string ⟨#[]⟩, .bool false, .slice none 0 0, .slice none 0 0] 38)).alloc (.cells #[.int .i64 0, .bool false, .bool false, .int .i64 0, .int .i64 0, .string ⟨#[]⟩, .string ⟨#[]⟩, .int .i64 0, .slice none 0 0, .slice none 0 0, .string ⟨#[]⟩, .bool false, .int .i64 0, .bool false, .string ⟨#[]⟩, .string ⟨#[]⟩, .int .i64 0, .bool false, .slice none 0 0, .bool false, .bool false, .string ⟨#[]⟩, .string ⟨#[]⟩, .bool false, .slice none 0 0, .slice none 0 0] 45) = W := ⟨_, rfl⟩
  have hx : Blk W w.heap.size (pkA .u8 p m) 29 := by rw [← hW]; exact (h0.alloc _).alloc _
  have hr1 : Blk W (w.heap.size + 1) #[.int .i64 0, .bool false, .bool false, .int .i64 0, .int .i64 0, .string ⟨#[]⟩, .string ⟨#[]⟩, .int .u8 0, .slice none 0 0, .slice none 0 0, .string ⟨#[]⟩, .bool false, .int .i64 0, .bool false, .string ⟨#[]⟩, .string ⟨#[]⟩, .int .i64 0, .bool false, .slice none 0 0, .bool false, .bool false, .string ⟨#[]⟩, .string ⟨#[]⟩, .bool false, .slice none 0 0, .slice none 0 0] 38 := by
    rw [← hW]
    have := Blk.new (w.alloc (.cells (pkA .u8 p m) 29)) #[.int .i64 0, .bool false, .bool false, .int .i64 0, .int .i64 0, .string ⟨#[]⟩, .string ⟨#[]⟩, .int .u8 0, .slice none 0 0, .slice none 0 0, .string ⟨#[]⟩, .bool false, .int .i64 0, .bool false, .string ⟨#[]⟩, .string ⟨#[]⟩, .int .i64 0, .bool false, .slice none 0 0, .bool false, .bool false, .string ⟨#[]⟩, .string ⟨#[]⟩, .bool false, .slice none 0 0, .slice none 0 0] 38
    rw [show (w.alloc (.cells (pkA .u8 p m) 29)).heap.size = w.heap.size + 1 from by simp] at this
    exact this.alloc _
  have hr2 : Blk W (w.heap.size + 2) #[.int .i64 0, .bool false, .bool false, .int .i64 0, .int .i64 0, .string ⟨#[]⟩, .string ⟨#[]⟩, .int .i64 0, .slice none 0 0, .slice none 0 0, .string ⟨#[]⟩, .bool false, .int .i64 0, .bool false, .string ⟨#[]⟩, .string ⟨#[]⟩, .int .i64 0, .bool false, .slice none 0 0, .bool false, .bool false, .string ⟨#[]⟩, .string ⟨#[]⟩, .bool false, .slice none 0 0, .slice none 0 0] 45 := by
    rw [← hW]
    have := Blk.new ((w.alloc (.cells (pkA .u8 p m) 29)).alloc (.cells #[.int .i64 0, .bool false, .bool false, .int .i64 0, .int .i64 0, .string ⟨#[]⟩, .string ⟨#[]⟩, .int .u8 0, .slice none 0 0, .slice none 0 0, .string ⟨#[]⟩, .bool false, .int .i64 0, .bool false, .string ⟨#[]⟩, .string ⟨#[]⟩, .int .i64 0, .bool false, .slice none 0 0, .bool false, .bool false, .string ⟨#[]⟩, .string ⟨#[]⟩, .bool false, .slice none 0 0, .slice none 0 0] 38)) #[.int .i64 0, .bool false, .bool false, .int .i64 0, .int .i64 0, .string ⟨#[]⟩, .string ⟨#[]⟩, .int .i64 0, .slice none 0 0, .slice none 0 0, .string ⟨#[]⟩, .bool false, .int .i64 0, .bool false, .string ⟨#[]⟩, .string ⟨#[]⟩, .int .i64 0, .bool false, .slice none 0 0, .bool false, .bool false, .string ⟨#[]⟩, .string ⟨#[]⟩, .bool false, .slice none 0 0, .slice none 0 0] 45
    rw [show ((w.alloc (.cells (pkA .u8 p m) 29)).alloc (.cells #[.int .i64 0, .bool false, .bool false, .int .i64 0, .int .i64 0, .string ⟨#[]⟩, .string ⟨#[]⟩, .int .u8 0, .slice none 0 0, .slice none 0 0, .string ⟨#[]⟩, .bool false, .int .i64 0, .bool false, .string ⟨#[]⟩, .string ⟨#[]⟩, .int .i64 0, .bool false, .slice none 0 0, .bool false, .bool false, .string ⟨#[]⟩, .string ⟨#[]⟩, .bool false, .slice none 0 0, .slice none 0 0] 38)).heap.size = w.heap.size + 2 from by simp] at this
    exact this
  have hbW : Below w.heap.size w W := by rw [← hW]; exact (hb0.alloc hb0.size _).alloc (hb0.alloc hb0.size _).size _
  obtain ⟨Wa, hWa⟩ : ∃ Wa, W.alloc (.cells #[.int .i64 0, .bool false, .bool false, .int .i64 0, .int .i64 0, .string ⟨#[]⟩, .string ⟨#[]⟩, .int .u8 0, .slice none 0 0, .slice none 0 0, .string ⟨#[]⟩, .bool false, .int .i64 0, .bool false, .string ⟨#[]⟩, .string ⟨#[]⟩, .int .i64 0, .bool false, .slice none 0 0, .bool false, .bool false, .string ⟨#[]⟩, .string ⟨#[]⟩, .bool false, .slice none 0 0, .slice none 0 0] 38) = Wa := ⟨_, rfl⟩
  have hxa : Blk Wa w.heap.size (pkA .u8 p m) 29 := by rw [← hWa]; exact hx.alloc _
  have haa : Blk Wa W.heap.size #[.int .i64 0, .bool false, .bool false, .int .i64 0, .int .i64 0, .string ⟨#[]⟩, .string ⟨#[]⟩, .int .u8 0, .slice none 0 0, .slice none 0 0, .string ⟨#[]⟩, .bool false, .int .i64 0, .bool false, .string ⟨#[]⟩, .string ⟨#[]⟩, .int .i64 0, .bool false, .slice none 0 0, .bool false, .bool false, .string ⟨#[]⟩, .string ⟨#[]⟩, .bool false, .slice none 0 0, .slice none 0 0] 38 := by rw [← hWa]; exact Blk.new _ _ _
  have hr1a : Blk Wa (w.heap.size + 1) #[.int .i64 0, .bool false, .bool false, .int .i64 0, .int .i64 0, .string ⟨#[]⟩, .string ⟨#[]⟩, .int .u8 0, .slice none 0 0, .slice none 0 0, .string ⟨#[]⟩, .bool false, .int .i64 0, .bool false, .string ⟨#[]⟩, .string ⟨#[]⟩, .int .i64 0, .bool false, .slice none 0 0, .bool false, .bool false, .string ⟨#[]⟩, .string ⟨#[]⟩, .bool false, .slice none 0 0, .slice none 0 0] 38 := by rw [← hWa]; exact hr1.alloc _
  have hr2a : Blk Wa (w.heap.size + 2) #[.int .i64 0, .bool false, .bool false, .int .i64 0, .int .i64 0, .string ⟨#[]⟩, .string ⟨#[]⟩, .int .i64 0, .slice none 0 0, .slice none 0 0, .string ⟨#[]⟩, .bool false, .int .i64 0, .bool false, .string ⟨#[]⟩, .string ⟨#[]⟩, .int .i64 0, .bool false, .slice none 0 0, .bool false, .bool false, .string ⟨#[]⟩, .string ⟨#[]⟩, .bool false, .slice none 0 0, .slice none 0 0] 45 := by rw [← hWa]; exact hr2.alloc _
  have hbWa : Below w.heap.size w Wa := by rw [← hWa]; exact hbW.alloc hbW.size _
  have gr : w.heap.size + 2 < W.heap.size := hr2.lt
  obtain ⟨W1, hW1⟩ : ∃ W1, Wa.setRow W.heap.size #[.int .i64 p.kind, .bool p.dup, .bool p.ret, .int .i64 p.q, .int .i64 p.id, .string p.topic, .string p.payload, .int .u8 p.code, .slice none 0 0, .slice none 0 0, .string p.client, .bool p.clean, .int .i64 p.keep, .bool p.hasWill, .string ⟨#[]⟩, .string ⟨#[]⟩, .int .i64 0, .bool false, .slice none 0 0, .bool p.hasUser, .bool p.hasPass, .string p.user, .string p.pass, .bool p.session, .slice none 0 0, .slice none 0 0] = W1 := ⟨_, rfl⟩
  have hx1 : Blk W1 w.heap.size (pkA .u8 p m) 29 := by rw [← hW1]; exact hxa.row_ (by omega) _
  have ha1 : Blk W1 W.heap.size #[.int .i64 p.kind, .bool p.dup, .bool p.ret, .int .i64 p.q, .int .i64 p.id, .string p.topic, .string p.payload, .int .u8 p.code, .slice none 0 0, .slice none 0 0, .string p.client, .bool p.clean, .int .i64 p.keep, .bool p.hasWill, .string ⟨#[]⟩, .string ⟨#[]⟩, .int .i64 0, .bool false, .slice none 0 0, .bool p.hasUser, .bool p.hasPass, .string p.user, .string p.pass, .bool p.session, .slice none 0 0, .slice none 0 0] 38 := by rw [← hW1]; exact haa.row _
  have hr11 : Blk W1 (w.heap.size + 1) #[.int .i64 0, .bool false, .bool false, .int .i64 0, .int .i64 0, .string ⟨#[]⟩, .string ⟨#[]⟩, .int .u8 0, .slice none 0 0, .slice none 0 0, .string ⟨#[]⟩, .bool false, .int .i64 0, .bool false, .string ⟨#[]⟩, .string ⟨#[]⟩, .int .i64 0, .bool false, .slice none 0 0, .bool false, .bool false, .string ⟨#[]⟩, .string ⟨#[]⟩, .bool false, .slice none 0 0, .slice none 0 0] 38 := by rw [← hW1]; exact hr1a.row_ (by omega) _
  have hr21 : Blk W1 (w.heap.size + 2) #[.int .i64 0, .bool false, .bool false, .int .i64 0, .int .i64 0, .string ⟨#[]⟩, .string ⟨#[]⟩, .int .i64 0, .slice none 0 0, .slice none 0 0, .string ⟨#[]⟩, .bool false, .int .i64 0, .bool false, .string ⟨#[]⟩, .string ⟨#[]⟩, .int .i64 0, .bool false, .slice none 0 0, .bool false, .bool false, .string ⟨#[]⟩, .string ⟨#[]⟩, .bool false, .slice none 0 0, .slice none 0 0] 45 := by rw [← hW1]; exact hr2a.row_ (by omega) _
  have hbW1 : Below w.heap.size w W1 := by rw [← hW1]; exact below_setRow hbWa (by omega) _
  obtain ⟨Wb, hWb⟩ : ∃ Wb, W1.alloc (.cells #[.int .i64 0, .bool false, .bool false, .int .i64 0, .int .i64 0, .string ⟨#[]⟩, .string ⟨#[]⟩, .int .i64 0, .slice none 0 0, .slice none 0 0, .string ⟨#[]⟩, .bool false, .int .i64 0, .bool false, .string ⟨#[]⟩, .string ⟨#[]⟩, .int .i64 0, .bool false, .slice none 0 0, .bool false, .bool false, .string ⟨#[]⟩, .string ⟨#[]⟩, .bool false, .slice none 0 0, .slice none 0 0] 45) = Wb := ⟨_, rfl⟩
  have hxb : Blk Wb w.heap.size (pkA .u8 p m) 29 := by rw [← hWb]; exact hx1.alloc _
  have hab : Blk Wb W.heap.size #[.int .i64 p.kind, .bool p.dup, .bool p.ret, .int .i64 p.q, .int .i64 p.id, .string p.topic, .string p.payload, .int .u8 p.code, .slice none 0 0, .slice none 0 0, .string p.client, .bool p.clean, .int .i64 p.keep, .bool p.hasWill, .string ⟨#[]⟩, .string ⟨#[]⟩, .int .i64 0, .bool false, .slice none 0 0, .bool p.hasUser, .bool p.hasPass, .string p.user, .string p.pass, .bool p.session, .slice none 0 0, .slice none 0 0] 38 := by rw [← hWb]; exact ha1.alloc _
  have hbb : Blk Wb W1.heap.size #[.int .i64 0, .bool false, .bool false, .int .i64 0, .int .i64 0, .string ⟨#[]⟩, .string ⟨#[]⟩, .int .i64 0, .slice none 0 0, .slice none 0 0, .string ⟨#[]⟩, .bool false, .int .i64 0, .bool false, .string ⟨#[]⟩, .string ⟨#[]⟩, .int .i64 0, .bool false, .slice none 0 0, .bool false, .bool false, .string ⟨#[]⟩, .string ⟨#[]⟩, .bool false, .slice none 0 0, .slice none 0 0] 45 := by rw [← hWb]; exact Blk.new _ _ _
  have hr1b : Blk Wb (w.heap.size + 1) #[.int .i64 0, .bool false, .bool false, .int .i64 0, .int .i64 0, .string ⟨#[]⟩, .string ⟨#[]⟩, .int .u8 0, .slice none 0 0, .slice none 0 0, .string ⟨#[]⟩, .bool false, .int .i64 0, .bool false, .string ⟨#[]⟩, .string ⟨#[]⟩, .int .i64 0, .bool false, .slice none 0 0, .bool false, .bool false, .string ⟨#[]⟩, .string ⟨#[]⟩, .bool false, .slice none 0 0, .slice none 0 0] 38 := by rw [← hWb]; exact hr11.alloc _
  have hr2b : Blk Wb (w.heap.size + 2) #[.int .i64 0, .bool false, .bool false, .int .i64 0, .int .i64 0, .string ⟨#[]⟩, .string ⟨#[]⟩, .int .i64 0, .slice none 0 0, .slice none 0 0, .string ⟨#[]⟩, .bool false, .int .i64 0, .bool false, .string ⟨#[]⟩, .string ⟨#[]⟩, .int .i64 0, .bool false, .slice none 0 0, .bool false, .bool false, .string ⟨#[]⟩, .string ⟨#[]⟩, .bool false, .slice none 0 0, .slice none 0 0] 45 := by rw [← hWb]; exact hr21.alloc _
  have hbWb : Below w.heap.size w Wb := by rw [← hWb]; exact hbW1.alloc hbW1.size _
  have gab : W.heap.size < W1.heap.size := ha1.lt
  obtain ⟨W2, hW2⟩ : ∃ W2, Wb.setRow W1.heap.size #[.int .i64 p.kind, .bool p.dup, .bool p.ret, .int .i64 p.q, .int .i64 p.id, .string p.topic, .string p.payload, .int .i64 p.code, .slice none 0 0, .slice none 0 0, .string p.client, .bool p.clean, .int .i64 p.keep, .bool p.hasWill, .string ⟨#[]⟩, .string ⟨#[]⟩, .int .i64 0, .bool false, .slice none 0 0, .bool p.hasUser, .bool p.hasPass, .string p.user, .string p.pass, .bool p.session, .slice none 0 0, .slice none 0 0] = W2 := ⟨_, rfl⟩
  have hx2 : Blk W2 w.heap.size (pkA .u8 p m) 29 := by rw [← hW2]; exact hxb.row_ (by omega) _
  have ha2 : Blk W2 W.heap.size #[.int .i64 p.kind, .bool p.dup, .bool p.ret, .int .i64 p.q, .int .i64 p.id, .string p.topic, .string p.payload, .int .u8 p.code, .slice none 0 0, .slice none 0 0, .string p.client, .bool p.clean, .int .i64 p.keep, .bool p.hasWill, .string ⟨#[]⟩, .string ⟨#[]⟩, .int .i64 0, .bool false, .slice none 0 0, .bool p.hasUser, .bool p.hasPass, .string p.user, .string p.pass, .bool p.session, .slice none 0 0, .slice none 0 0] 38 := by rw [← hW2]; exact hab.row_ (by omega) _
  have hb2 : Blk W2 W1.heap.size #[.int .i64 p.kind, .bool p.dup, .bool p.ret, .int .i64 p.q, .int .i64 p.id, .string p.topic, .string p.payload, .int .i64 p.code, .slice none 0 0, .slice none 0 0, .string p.client, .bool p.clean, .int .i64 p.keep, .bool p.hasWill, .string ⟨#[]⟩, .string ⟨#[]⟩, .int .i64 0, .bool false, .slice none 0 0, .bool p.hasUser, .bool p.hasPass, .string p.user, .string p.pass, .bool p.session, .slice none 0 0, .slice none 0 0] 45 := by rw [← hW2]; exact hbb.row _
  have hr12 : Blk W2 (w.heap.size + 1) #[.int .i64 0, .bool false, .bool false, .int .i64 0, .int .i64 0, .string ⟨#[]⟩, .string ⟨#[]⟩, .int .u8 0, .slice none 0 0, .slice none 0 0, .string ⟨#[]⟩, .bool false, .int .i64 0, .bool false, .string ⟨#[]⟩, .string ⟨#[]⟩, .int .i64 0, .bool false, .slice none 0 0, .bool false, .bool false, .string ⟨#[]⟩, .string ⟨#[]⟩, .bool false, .slice none 0 0, .slice none 0 0] 38 := by rw [← hW2]; exact hr1b.row_ (by omega) _
  have hr22 : Blk W2 (w.heap.size + 2) #[.int .i64 0, .bool false, .bool false, .int .i64 0, .int .i64 0, .string ⟨#[]⟩, .string ⟨#[]⟩, .int .i64 0, .slice none 0 0, .slice none 0 0, .string ⟨#[]⟩, .bool false, .int .i64 0, .bool false, .string ⟨#[]⟩, .string ⟨#[]⟩, .int .i64 0, .bool false, .slice none 0 0, .bool false, .bool false, .string ⟨#[]⟩, .string ⟨#[]⟩, .bool false, .slice none 0 0, .slice none 0 0] 45 := by rw [← hW2]; exact hr2b.row_ (by omega) _
  have hbW2 : Below w.heap.size w W2 := by rw [← hW2]; exact below_setRow hbWb (by omega) _
  have HAA := Lib.hid haa
  have HBB := Lib.hid hbb
  have C1 : ∀ X : World, Below w.heap.size w X → _ := fun X hX => props_any Ap np kp (min np 80) p.ps X (by have := hP.pn; rw [← hm] at this; exact this) (by have := hP.pc; rw [← hm] at this; exact this) (by have := hC.p; rw [← hm] at this; exact this) (by have := hP.pr.below hX; rw [← hm] at this; exact this) rfl (by have := hC.pA; rw [← hm] at this; exact this)
  have C2 : ∀ X : World, Below w.heap.size w X → _ := fun X hX => props_any Aw nw kw (min nw 80) p.wps X (by have := hP.wn; rw [← hm] at this; exact this) (by have := hP.wc; rw [← hm] at this; exact this) (by have := hC.w; rw [← hm] at this; exact this) (by have := hP.wr.below hX; rw [← hm] at this; exact this) rfl (by have := hC.wA; rw [← hm] at this; exact this)
  have C1 := Lib.hid C1
  have C2 := Lib.hid C2
  have k0 : W.cell? ⟨w.heap.size, 0, none⟩ = some (.int .i64 p.kind) := by rw [← hm] at hx; exact hx.cell 0
  have k1 : W.cell? ⟨w.heap.size, 1, none⟩ = some (.bool p.dup) := by rw [← hm] at hx; exact hx.cell 1
  have k2 : W.cell? ⟨w.heap.size, 2, none⟩ = some (.bool p.ret) := by rw [← hm] at hx; exact hx.cell 2
  have k3 : W.cell? ⟨w.heap.size, 3, none⟩ = some (.int .i64 p.q) := by rw [← hm] at hx; exact hx.cell 3
  have k4 : W.cell? ⟨w.heap.size, 4, none⟩ = some (.int .i64 p.id) := by rw [← hm] at hx; exact hx.cell 4
  have k5 : W.cell? ⟨w.heap.size, 5, none⟩ = some (.string p.topic) := by rw [← hm] at hx; exact hx.cell 5
  have k6 : W.cell? ⟨w.heap.size, 6, none⟩ = some (.string p.payload) := by rw [← hm] at hx; exact hx.cell 6
  have k7 : W.cell? ⟨w.heap.size, 7, none⟩ = some (.int .u8 p.code) := by rw [← hm] at hx; exact hx.cell 7
  have k10 : W.cell? ⟨w.heap.size, 10, none⟩ = some (.string p.client) := by rw [← hm] at hx; exact hx.cell 10
  have k11 : W.cell? ⟨w.heap.size, 11, none⟩ = some (.bool p.clean) := by rw [← hm] at hx; exact hx.cell 11
  have k12 : W.cell? ⟨w.heap.size, 12, none⟩ = some (.int .i64 p.keep) := by rw [← hm] at hx; exact hx.cell 12
  have k13 : W.cell? ⟨w.heap.size, 13, none⟩ = some (.bool p.hasWill) := by rw [← hm] at hx; exact hx.cell 13
  have k19 : W.cell? ⟨w.heap.size, 19, none⟩ = some (.bool p.hasUser) := by rw [← hm] at hx; exact hx.cell 19
  have k20 : W.cell? ⟨w.heap.size, 20, none⟩ = some (.bool p.hasPass) := by rw [← hm] at hx; exact hx.cell 20
  have k21 : W.cell? ⟨w.heap.size, 21, none⟩ = some (.string p.user) := by rw [← hm] at hx; exact hx.cell 21
  have k22 : W.cell? ⟨w.heap.size, 22, none⟩ = some (.string p.pass) := by rw [← hm] at hx; exact hx.cell 22
  have k23 : W.cell? ⟨w.heap.size, 23, none⟩ = some (.bool p.session) := by rw [← hm] at hx; exact hx.cell 23
  have e0 : W1.cell? ⟨w.heap.size, 0, none⟩ = some (.int .i64 p.kind) := by rw [← hm] at hx1; exact hx1.cell 0
  have e1 : W1.cell? ⟨w.heap.size, 1, none⟩ = some (.bool p.dup) := by rw [← hm] at hx1; exact hx1.cell 1
  have e2 : W1.cell? ⟨w.heap.size, 2, none⟩ = some (.bool p.ret) := by rw [← hm] at hx1; exact hx1.cell 2
  have e3 : W1.cell? ⟨w.heap.size, 3, none⟩ = some (.int .i64 p.q) := by rw [← hm] at hx1; exact hx1.cell 3
  have e4 : W1.cell? ⟨w.heap.size, 4, none⟩ = some (.int .i64 p.id) := by rw [← hm] at hx1; exact hx1.cell 4
  have e5 : W1.cell? ⟨w.heap.size, 5, none⟩ = some (.string p.topic) := by rw [← hm] at hx1; exact hx1.cell 5
  have e6 : W1.cell? ⟨w.heap.size, 6, none⟩ = some (.string p.payload) := by rw [← hm] at hx1; exact hx1.cell 6
  have e7 : W1.cell? ⟨w.heap.size, 7, none⟩ = some (.int .u8 p.code) := by rw [← hm] at hx1; exact hx1.cell 7
  have e10 : W1.cell? ⟨w.heap.size, 10, none⟩ = some (.string p.client) := by rw [← hm] at hx1; exact hx1.cell 10
  have e11 : W1.cell? ⟨w.heap.size, 11, none⟩ = some (.bool p.clean) := by rw [← hm] at hx1; exact hx1.cell 11
  have e12 : W1.cell? ⟨w.heap.size, 12, none⟩ = some (.int .i64 p.keep) := by rw [← hm] at hx1; exact hx1.cell 12
  have e13 : W1.cell? ⟨w.heap.size, 13, none⟩ = some (.bool p.hasWill) := by rw [← hm] at hx1; exact hx1.cell 13
  have e19 : W1.cell? ⟨w.heap.size, 19, none⟩ = some (.bool p.hasUser) := by rw [← hm] at hx1; exact hx1.cell 19
  have e20 : W1.cell? ⟨w.heap.size, 20, none⟩ = some (.bool p.hasPass) := by rw [← hm] at hx1; exact hx1.cell 20
  have e21 : W1.cell? ⟨w.heap.size, 21, none⟩ = some (.string p.user) := by rw [← hm] at hx1; exact hx1.cell 21
  have e22 : W1.cell? ⟨w.heap.size, 22, none⟩ = some (.string p.pass) := by rw [← hm] at hx1; exact hx1.cell 22
  have e23 : W1.cell? ⟨w.heap.size, 23, none⟩ = some (.bool p.session) := by rw [← hm] at hx1; exact hx1.cell 23
  have f9 : W2.cell? ⟨w.heap.size, 9, none⟩ = some (.slice Ap np kp) := by rw [← hm] at hx2; exact hx2.cell 9
  have ne1 : w.heap.size ≠ W.heap.size := by omega
  have ne2 : w.heap.size ≠ W1.heap.size := by omega
  have ne3 : W.heap.size ≠ w.heap.size := Ne.symm ne1
  have ne4 : W1.heap.size ≠ w.heap.size := Ne.symm ne2
  have ne5 : W.heap.size ≠ W1.heap.size := by omega
  have ne6 : W1.heap.size ≠ W.heap.size := Ne.symm ne5
  have cd0 := hP.fits.code.1
  have cd1 := hP.fits.code.2
  have HX2 := Lib.hid hx2
  have HA2 := Lib.hid ha2
  have HB2 := Lib.hid hb2
  have HR1 := Lib.hid hr12
  have HR2 := Lib.hid hr22
  have BW2 := Lib.hid hbW2
  have HM := Lib.hid hm
  have HP := Lib.hid hP
  have HC := Lib.hid hC
  have GR := Lib.hid gr
  have GAB := Lib.hid gab
  clear h0 hb0 hx hr1 hr2 hbW hxa haa hr1a hr2a hbWa hx1 ha1 hr11 hr21 hbW1 hxb hab hbb hr1b hr2b hbWb hx2 ha2 hb2 hr12 hr22 hbW2 hm hP hC gr gab
  go_enter Tryd.func8, Tryd.ntmps8
  go_wp2_with (first | (refine wpList_buildTo rfl 38 _ rfl (some 46) rfl #[.int .i64 p.kind, .bool p.dup, .bool p.ret, .int .i64 p.q, .int .i64 p.id, .string p.topic, .string p.payload, .int .u8 p.code, .slice none 0 0, .slice none 0 0, .string p.client, .bool p.clean, .int .i64 p.keep, .bool p.hasWill, .string ⟨#[]⟩, .string ⟨#[]⟩, .int .i64 0, .bool false, .slice none 0 0, .bool p.hasUser, .bool p.hasPass, .string p.user, .string p.pass, .bool p.session, .slice none 0 0, .slice none 0 0] (by kernel_rfl) ?_) | (refine wpList_store_rowTo rfl 38 (.tmp 4) (.tmp 46) rfl rfl W.heap.size #[.int .i64 p.kind, .bool p.dup, .bool p.ret, .int .i64 p.q, .int .i64 p.id, .string p.topic, .string p.payload, .int .u8 p.code, .slice none 0 0, .slice none 0 0, .string p.client, .bool p.clean, .int .i64 p.keep, .bool p.hasWill, .string ⟨#[]⟩, .string ⟨#[]⟩, .int .i64 0, .bool false, .slice none 0 0, .bool p.hasUser, .bool p.hasPass, .string p.user, .string p.pass, .bool p.session, .slice none 0 0, .slice none 0 0] rfl rfl 38 #[.int .i64 0, .bool false, .bool false, .int .i64 0, .int .i64 0, .string ⟨#[]⟩, .string ⟨#[]⟩, .int .u8 0, .slice none 0 0, .slice none 0 0, .string ⟨#[]⟩, .bool false, .int .i64 0, .bool false, .string ⟨#[]⟩, .string ⟨#[]⟩, .int .i64 0, .bool false, .slice none 0 0, .bool false, .bool false, .string ⟨#[]⟩, .string ⟨#[]⟩, .bool false, .slice none 0 0, .slice none 0 0] HAA.out ppk_size rfl (by kernel_rfl) ?_) | (refine wpList_buildTo rfl 45 _ rfl (some 82) rfl #[.int .i64 p.kind, .bool p.dup, .bool p.ret, .int .i64 p.q, .int .i64 p.id, .string p.topic, .string p.payload, .int .i64 p.code, .slice none 0 0, .slice none 0 0, .string p.client, .bool p.clean, .int .i64 p.keep, .bool p.hasWill, .string ⟨#[]⟩, .string ⟨#[]⟩, .int .i64 0, .bool false, .slice none 0 0, .bool p.hasUser, .bool p.hasPass, .string p.user, .string p.pass, .bool p.session, .slice none 0 0, .slice none 0 0] (by kernel_rfl) ?_) | (refine wpList_store_rowTo rfl 45 (.tmp 5) (.tmp 82) rfl rfl W1.heap.size #[.int .i64 p.kind, .bool p.dup, .bool p.ret, .int .i64 p.q, .int .i64 p.id, .string p.topic, .string p.payload, .int .i64 p.code, .slice none 0 0, .slice none 0 0, .string p.client, .bool p.clean, .int .i64 p.keep, .bool p.hasWill, .string ⟨#[]⟩, .string ⟨#[]⟩, .int .i64 0, .bool false, .slice none 0 0, .bool p.hasUser, .bool p.hasPass, .string p.user, .string p.pass, .bool p.session, .slice none 0 0, .slice none 0 0] rfl rfl 45 #[.int .i64 0, .bool false, .bool false, .int .i64 0, .int .i64 0, .string ⟨#[]⟩, .string ⟨#[]⟩, .int .i64 0, .slice none 0 0, .slice none 0 0, .string ⟨#[]⟩, .bool false, .int .i64 0, .bool false, .string ⟨#[]⟩, .string ⟨#[]⟩, .int .i64 0, .bool false, .slice none 0 0, .bool false, .bool false, .string ⟨#[]⟩, .string ⟨#[]⟩, .bool false, .slice none 0 0, .slice none 0 0] HBB.out rpk_size' rfl (by kernel_rfl) ?_))
  (with_reducible refine (C1.out _ BW2.out).mono ?_)
  rintro e w3 ⟨v1, v2, rfl, o1, o2, b3⟩
  obtain ⟨A1, c1, rfl⟩ := own_slice o1
  obtain ⟨A2, c2, rfl⟩ := own_slice o2
  have O1 := Lib.hid (own_lower o1 BW2.out.size)
  have O2 := Lib.hid (own_lower o2 BW2.out.size)
  have BW3 := Lib.hid (BW2.out.trans (b3.mono BW2.out.size))
  have hx3 := HX2.out.of_below b3
  have ha3 := HA2.out.of_below b3
  have hb3 := HB2.out.of_below b3
  have HR13 := Lib.hid (HR1.out.of_below b3)
  have HR23 := Lib.hid (HR2.out.of_below b3)
  rw [← HM.out] at hx3
  have f14 : w3.cell? ⟨w.heap.size, 14, none⟩ = some (.string p.wt) := hx3.cell 14
  have f15 : w3.cell? ⟨w.heap.size, 15, none⟩ = some (.string p.wp) := hx3.cell 15
  have f16 : w3.cell? ⟨w.heap.size, 16, none⟩ = some (.int .i64 p.wq) := hx3.cell 16
  have f17 : w3.cell? ⟨w.heap.size, 17, none⟩ = some (.bool p.wr) := hx3.cell 17
  have f18 : w3.cell? ⟨w.heap.size, 18, none⟩ = some (.slice Aw nw kw) := hx3.cell 18
  have a9 : w3.cell? ⟨W.heap.size, 9, none⟩ = some (.slice none 0 0) := ha3.cell 9
  have za9 := ha3.frozen 9
  have a14 : w3.cell? ⟨W.heap.size, 14, none⟩ = some (.string ⟨#[]⟩) := ha3.cell 14
  have za14 := ha3.frozen 14
  have a15 : w3.cell? ⟨W.heap.size, 15, none⟩ = some (.string ⟨#[]⟩) := ha3.cell 15
  have za15 := ha3.frozen 15
  have a16 : w3.cell? ⟨W.heap.size, 16, none⟩ = some (.int .i64 0) := ha3.cell 16
  have za16 := ha3.frozen 16
  have a17 : w3.cell? ⟨W.heap.size, 17, none⟩ = some (.bool false) := ha3.cell 17
  have za17 := ha3.frozen 17
  have a18 : w3.cell? ⟨W.heap.size, 18, none⟩ = some (.slice none 0 0) := ha3.cell 18
  have za18 := ha3.frozen 18
  have b9 : w3.cell? ⟨W1.heap.size, 9, none⟩ = some (.slice none 0 0) := hb3.cell 9
  have zb9 := hb3.frozen 9
  have b14 : w3.cell? ⟨W1.heap.size, 14, none⟩ = some (.string ⟨#[]⟩) := hb3.cell 14
  have zb14 := hb3.frozen 14
  have b15 : w3.cell? ⟨W1.heap.size, 15, none⟩ = some (.string ⟨#[]⟩) := hb3.cell 15
  have zb15 := hb3.frozen 15
  have b16 : w3.cell? ⟨W1.heap.size, 16, none⟩ = some (.int .i64 0) := hb3.cell 16
  have zb16 := hb3.frozen 16
  have b17 : w3.cell? ⟨W1.heap.size, 17, none⟩ = some (.bool false) := hb3.cell 17
  have zb17 := hb3.frozen 17
  have b18 : w3.cell? ⟨W1.heap.size, 18, none⟩ = some (.slice none 0 0) := hb3.cell 18
  have zb18 := hb3.frozen 18
  rw [HM.out] at hx3
  have HX3 := Lib.hid hx3
  have HA3 := Lib.hid ha3
  have HB3 := Lib.hid hb3
  clear o1 o2 b3 hx3 ha3 hb3 HX2 HA2 HB2 HR1 HR2 
  go_upto_region 6 with fail
  rename_i K6 hK6
  have HK := Lib.hid hK6
  clear hK6
  go_wp2_with fail
  obtain ⟨K, hK⟩ : ∃ K, ((((((((((((w3.setCell ⟨W.heap.size, 9, none⟩ (.slice A1 (min np 80) c1)).setCell ⟨W1.heap.size, 9, none⟩ (.slice A2 (min np 80) c2)).setCell ⟨W.heap.size, 14, none⟩ (.string p.wt)).setCell ⟨W.heap.size, 15, none⟩ (.string p.wp)).setCell ⟨W.heap.size, 16, none⟩ (.int .i64 p.wq)).setCell ⟨W.heap.size, 17, none⟩ (.bool p.wr)).setCell ⟨W.heap.size, 18, none⟩ (.slice none 0 0)).setCell ⟨W1.heap.size, 14, none⟩ (.string p.wt)).setCell ⟨W1.heap.size, 15, none⟩ (.string p.wp)).setCell ⟨W1.heap.size, 16, none⟩ (.int .i64 p.wq)).setCell ⟨W1.heap.size, 17, none⟩ (.bool p.wr)).setCell ⟨W1.heap.size, 18, none⟩ (.slice none 0 0)) = K := ⟨_, rfl⟩
  rw [hK]
  have mK : Mod (fun g => g = W.heap.size ∨ g = W1.heap.size) w3 K := by rw [← hK]; exact (((((((((((((Mod.refl (fun g => g = W.heap.size ∨ g = W1.heap.size) _).setCell (p := ⟨W.heap.size, 9, none⟩) (.inl (.inl rfl)) (.slice A1 (min np 80) c1)).setCell (p := ⟨W1.heap.size, 9, none⟩) (.inl (.inr rfl)) (.slice A2 (min np 80) c2)).setCell (p := ⟨W.heap.size, 14, none⟩) (.inl (.inl rfl)) (.string p.wt)).setCell (p := ⟨W.heap.size, 15, none⟩) (.inl (.inl rfl)) (.string p.wp)).setCell (p := ⟨W.heap.size, 16, none⟩) (.inl (.inl rfl)) (.int .i64 p.wq)).setCell (p := ⟨W.heap.size, 17, none⟩) (.inl (.inl rfl)) (.bool p.wr)).setCell (p := ⟨W.heap.size, 18, none⟩) (.inl (.inl rfl)) (.slice none 0 0)).setCell (p := ⟨W1.heap.size, 14, none⟩) (.inl (.inr rfl)) (.string p.wt)).setCell (p := ⟨W1.heap.size, 15, none⟩) (.inl (.inr rfl)) (.string p.wp)).setCell (p := ⟨W1.heap.size, 16, none⟩) (.inl (.inr rfl)) (.int .i64 p.wq)).setCell (p := ⟨W1.heap.size, 17, none⟩) (.inl (.inr rfl)) (.bool p.wr)).setCell (p := ⟨W1.heap.size, 18, none⟩) (.inl (.inr rfl)) (.slice none 0 0))
  have bK : Below w.heap.size w K := BW3.out.trans (mK.below BW3.out.size (fun k hk => by have := GR.out; have := GAB.out; omega))
  have ha4 := ((((((((((((HA3.out.set 9 (.slice A1 (min np 80) c1)).other ne5 9 (.slice A2 (min np 80) c2)).set 14 (.string p.wt)).set 15 (.string p.wp)).set 16 (.int .i64 p.wq)).set 17 (.bool p.wr)).set 18 (.slice none 0 0)).other ne5 14 (.string p.wt)).other ne5 15 (.string p.wp)).other ne5 16 (.int .i64 p.wq)).other ne5 17 (.bool p.wr)).other ne5 18 (.slice none 0 0))
  rw [hK] at ha4
  have hb4 := ((((((((((((HB3.out.other ne6 9 (.slice A1 (min np 80) c1)).set 9 (.slice A2 (min np 80) c2)).other ne6 14 (.string p.wt)).other ne6 15 (.string p.wp)).other ne6 16 (.int .i64 p.wq)).other ne6 17 (.bool p.wr)).other ne6 18 (.slice none 0 0)).set 14 (.string p.wt)).set 15 (.string p.wp)).set 16 (.int .i64 p.wq)).set 17 (.bool p.wr)).set 18 (.slice none 0 0))
  rw [hK] at hb4
  have hx4 := HX3.out.mod mK (fun hx => by have := GR.out; have := GAB.out; omega)
  have hr14 := HR13.out.mod mK (fun hx => by have := GR.out; have := GAB.out; omega)
  have hr24 := HR23.out.mod mK (fun hx => by have := GR.out; have := GAB.out; omega)
  have o1 := own_mod O1.out mK (fun g hg hx => by rcases hx with e | e; exact own_ne O1.out HA3.out (by decide) (e ▸ hg); exact own_ne O1.out HB3.out (by decide) (e ▸ hg))
  have o2 := own_mod O2.out mK (fun g hg hx => by rcases hx with e | e; exact own_ne O2.out HA3.out (by decide) (e ▸ hg); exact own_ne O2.out HB3.out (by decide) (e ▸ hg))
  clear hK mK
  have BK := Lib.hid bK
  (with_reducible refine (C2.out _ BK.out).mono ?_)
  rintro e w4 ⟨v3, v4, rfl, o3, o4, b4⟩
  obtain ⟨A3, c3, rfl⟩ := own_slice o3
  obtain ⟨A4, c4, rfl⟩ := own_slice o4
  have o1 := own_mod o1 (Mod.of_below (S := fun _ => False) b4) (fun _ _ h => h)
  have o2 := own_mod o2 (Mod.of_below (S := fun _ => False) b4) (fun _ _ h => h)
  have o3 := own_lower o3 BK.out.size
  have o4 := own_lower o4 BK.out.size
  have b5 := BK.out.trans (b4.mono BK.out.size)
  have hx5 := hx4.of_below b4
  have ha5 := ha4.of_below b4
  have hb5 := hb4.of_below b4
  have hr15 := hr14.of_below b4
  have hr25 := hr24.of_below b4
  have a18 : w4.cell? ⟨W.heap.size, 18, none⟩ = some (.slice none 0 0) := ha5.cell 18
  have b18 : w4.cell? ⟨W1.heap.size, 18, none⟩ = some (.slice none 0 0) := hb5.cell 18
  have z18 := ha5.frozen 18
  have y18 := hb5.frozen 18
  obtain ⟨Z, hZ⟩ : ∃ Z, ((w4.setCell ⟨W.heap.size, 18, none⟩ (.slice A3 (min nw 80) c3)).setCell ⟨W1.heap.size, 18, none⟩ (.slice A4 (min nw 80) c4)) = Z := ⟨_, rfl⟩
  have mZ : Mod (fun g => g = W.heap.size ∨ g = W1.heap.size) w4 Z := by rw [← hZ]; exact (((Mod.refl (fun g => g = W.heap.size ∨ g = W1.heap.size) _).setCell (p := ⟨W.heap.size, 18, none⟩) (.inl (.inl rfl)) (.slice A3 (min nw 80) c3)).setCell (p := ⟨W1.heap.size, 18, none⟩) (.inl (.inr rfl)) (.slice A4 (min nw 80) c4))
  have BZ : Hid (Below w.heap.size w Z) := Lib.hid (b5.trans (mZ.below b5.size (fun k hk => by have := GR.out; have := GAB.out; omega)))
  have haZ := ((ha5.set 18 (.slice A3 (min nw 80) c3)).other ne5 18 (.slice A4 (min nw 80) c4))
  rw [hZ] at haZ
  have hbZ := ((hb5.other ne6 18 (.slice A3 (min nw 80) c3)).set 18 (.slice A4 (min nw 80) c4))
  rw [hZ] at hbZ
  have hxZ := hx5.mod mZ (fun hx => by have := GR.out; have := GAB.out; omega)
  have HR1 := Lib.hid (hr15.mod mZ (fun hx => by have := GR.out; have := GAB.out; omega))
  have HR2 := Lib.hid (hr25.mod mZ (fun hx => by have := GR.out; have := GAB.out; omega))
  have keep : ∀ {e : TypeId} {s n : Nat} {v : Value} {x : List Value}, w4.ownsRow w.heap.size e s v n x → 38 ≠ e → 45 ≠ e → Z.ownsRow w.heap.size e s v n x := fun o a1 a2 =>
    own_mod o mZ (fun g hg hx => by rcases hx with e | e; exact own_ne o ha5 a1 (e ▸ hg); exact own_ne o hb5 a2 (e ▸ hg))
  have hT : Two w.heap.size Z W.heap.size W1.heap.size (pk0 p np nw) ⟨⟨none, 0, 0⟩, ⟨A1, min np 80, c1⟩, ⟨A3, min nw 80, c3⟩, ⟨none, 0, 0⟩, ⟨none, 0, 0⟩⟩ ⟨⟨none, 0, 0⟩, ⟨A2, min np 80, c2⟩, ⟨A4, min nw 80, c4⟩, ⟨none, 0, 0⟩, ⟨none, 0, 0⟩⟩ := by
    have e1 := congrArg (fun m : Hs => m.p.n) HM.out
    have e2 := congrArg (fun m : Hs => m.w.n) HM.out
    have l1 : (p.ps.take (min np 80)).length = min np 80 := by rw [List.length_take, HP.out.pn, ← HM.out]; simp only; omega
    have l2 : (p.wps.take (min nw 80)).length = min nw 80 := by rw [List.length_take, HP.out.wn, ← HM.out]; simp only; omega
    exact ⟨haZ, hbZ, own_cast (keep o1 (by decide) (by decide)) rfl l1.symm rfl, own_cast (keep o2 (by decide) (by decide)) rfl l1.symm rfl, own_cast (keep o3 (by decide) (by decide)) rfl l2.symm rfl, own_cast (keep o4 (by decide) (by decide)) rfl l2.symm rfl, World.ownsRow_nil _ _ _ _, World.ownsRow_nil _ _ _ _, World.ownsRow_nil _ _ _ _, World.ownsRow_nil _ _ _ _, World.ownsRow_nil _ _ _ _, World.ownsRow_nil _ _ _ _, fun _ h => by cases h⟩
  rw [← HM.out] at hxZ
  have k8 : Z.cell? ⟨w.heap.size, 8, none⟩ = some (.slice Ac nc kc) := hxZ.cell 8
  have k24 : Z.cell? ⟨w.heap.size, 24, none⟩ = some (.slice As ns ks) := hxZ.cell 24
  have k25 : Z.cell? ⟨w.heap.size, 25, none⟩ = some (.slice Af nf kf) := hxZ.cell 25
  rw [HM.out] at hxZ
  have HXZ := Lib.hid hxZ
  have HT := Lib.hid hT
  clear hx4 ha4 hb4 hr14 hr24 o1 o2 o3 o4 b4 b5 hx5 ha5 hb5 hr15 hr25 mZ haZ hbZ hxZ keep hT bK BK HX3 HA3 HB3 HR13 HR23 O1 O2 BW3
  go_wp2_with fail
  have hq : pk0 p np nw = { cutP p with codes := [], subs := [], filters := [] } := by
    have e1 := HP.out.pn
    have e2 := HP.out.wn
    rw [← HM.out] at e1 e2
    simp only at e1 e2
    unfold pk0 cutP
    rw [← e1, ← e2, take_min80, take_min80]
  have hT := HT.out
  rw [hq] at hT
  exact HK.out _ _ (pk_7 HP.out ⟨hT, HXZ.out, HR1.out, HR2.out, BZ.out, GR.out, GAB.out⟩)


end Go.Proofs.YtlnanenfpapfkaaDoor

/- strings.Builder's writing at this dump: copyCheck, WriteString (the library's own walks, turned to this dump). -/
set_option linter.unusedVariables false
namespace Go.Proofs.YtlnanenfpapfkaaDoor
open Go.Shelf Go.RowKit

theorem b_size : (Tryd.prog.info? 69).map (·.size) = some 2 := by kernel_rfl
theorem b_lies : liesAt Tryd.prog Tryd.prog.depth 69 (2 / Tryd.prog.cellsOf 69) 0 69 1 = true := by kernel_rfl
theorem b_byte : (Tryd.prog.info? 5).map (fun i => (i.zero, i.size, i.bytes)) = some (some (.int .u8 0), 1, 1) := by kernel_rfl
set_option maxHeartbeats 1000000 in
set_option maxRecDepth 100000 in
theorem cc_used (b : Nat) (w : World) (h0 : w.cell? ⟨b, 0, none⟩ = some (.pointer (some ⟨b, 0, none⟩))) :
    Calls Tryd.prog 102 #[.pointer (some ⟨b, 0, none⟩)] w fun e w' => e = .returned (.tuple #[]) ∧ w' = w := by
  obtain ⟨j, hj, _⟩ := Option.map_eq_some_iff.1 b_size
  go_enter Tryd.func102, Tryd.ntmps102
  go_wp2
  rw [Lib.run_neq_ptr_same w _ Tryd.underlying67 hj]
  go_wp2
  go_end0
  exact ⟨rfl, rfl⟩
set_option maxHeartbeats 1000000 in
set_option maxRecDepth 100000 in
theorem cc_fresh (b : Nat) (w : World) (h0 : w.cell? ⟨b, 0, none⟩ = some (.pointer none)) (hsh : w.shape? b = some (69, 2)) (hfz : w.frozen? ⟨b, 0, none⟩ = false) :
    Calls Tryd.prog 102 #[.pointer (some ⟨b, 0, none⟩)] w fun e w' => e = .returned (.tuple #[]) ∧ w' = w.setCell ⟨b, 0, none⟩ (.pointer (some ⟨b, 0, none⟩)) := by
  obtain ⟨j, hj, hjs⟩ := Option.map_eq_some_iff.1 b_size
  go_enter Tryd.func102, Tryd.ntmps102
  go_wp2
  rw [Lib.run_to_unsafe w ⟨b, 0, none⟩ Tryd.underlying67 Tryd.underlying156 hj (by rw [hjs]; decide) hsh (Nat.zero_lt_succ 1)]
  simp only [Result.andThen]
  rw [Oper.upon_value]
  go_wp2
  rw [run_callFunc_extern Tryd.func113 (by kernel_rfl) (by kernel_rfl) (by kernel_rfl) (e := Extern.AbiNoEscape.same) (by kernel_rfl)]
  rw [Lib.run_noEscape]
  simp only [Result.andThen]
  rw [Oper.upon_value]
  go_wp2
  rw [Lib.run_from_unsafe w ⟨b, 0, none⟩ Tryd.underlying156 Tryd.underlying67 hj hsh b_lies]
  simp only [Result.andThen]
  rw [Oper.upon_value]
  go_wp2
  go_end0
  exact ⟨rfl, rfl⟩
theorem cc_any (B b : Nat) (bs : List Value) (w : World) (h : Lib.IsBuilder 69 5 B b bs w) :
    Calls Tryd.prog 102 #[.pointer (some ⟨b, 0, none⟩)] w fun e w' => e = .returned (.tuple #[]) ∧ (Lib.BuilderAt 69 5 B b (.pointer (some ⟨b, 0, none⟩)) bs w' ∧ Below B w w') := by
  rcases h with h | h
  · refine (cc_fresh b w h.cell0 h.shape h.frozen0).mono ?_
    rintro e w' ⟨rfl, rfl⟩
    exact ⟨rfl, h.used _, (Below.refl B w).setCell (p := ⟨b, 0, none⟩) h.1 _⟩
  · refine (cc_used b w h.cell0).mono ?_
    rintro e w' ⟨rfl, rfl⟩
    exact ⟨rfl, h, Below.refl B _⟩
set_option maxHeartbeats 2000000 in
set_option maxRecDepth 100000 in
/-- (*strings.Builder).WriteString. -/
theorem ws_any (B b : Nat) (bs : List Value) (s : ByteArray) (w : World) (h : Lib.IsBuilder 69 5 B b bs w) (hlen : bs.length + s.size ≤ 140737488355328) (hBw : B ≤ w.heap.size) :
    Calls Tryd.prog 86 #[.pointer (some ⟨b, 0, none⟩), .string s] w fun e w' => e = .returned (.tuple #[.int .i64 s.size, .nilIface]) ∧ (Lib.BuilderAt 69 5 B b (.pointer (some ⟨b, 0, none⟩)) (bs ++ Lib.strCells s) w' ∧ Below B w w') := by
  obtain ⟨i0, hi, hz0, hz1, hz2⟩ := info_parts b_byte
  go_enter Tryd.func86, Tryd.ntmps86
  go_wp2_with (go_at_call 102; refine (cc_any B b bs _ h).mono ?_)
  rintro e w1 ⟨rfl, h1, hb1⟩
  obtain ⟨hB, v, hbk, hown, hne⟩ := h1
  have c0 : w1.cell? ⟨b, 0, none⟩ = some (.pointer (some ⟨b, 0, none⟩)) := by rw [Lib.cell_of_heap hbk]; rfl
  have c1 : w1.cell? ⟨b, 1, none⟩ = some v := by rw [Lib.cell_of_heap hbk]; rfl
  go_wp2_with (at_builtin; refine Lib.wpList_append_own_string _ rfl _ _ 22 9 rfl B 5 i0 Tryd.underlying22 Tryd.underlying9 hi hz0 hz1 hz2 _ _ _ rfl hown s rfl ?c3 ?c4 ?c5 ?_)
  case c3 => unfold maxLen; omega
  case c4 => omega
  case c5 => have := hb1.size; omega
  intro v' w2 hown' hgrow _
  have hlt : b < w1.heap.size := by
    rcases Nat.lt_or_ge b w1.heap.size with h' | h'
    · exact h'
    · simp [Array.getElem?_eq_none h'] at hbk
  have hb2 : w2.heap[b]? = some (.cells #[.pointer (some ⟨b, 0, none⟩), v] 69 (0, 0)) := by
    rw [hgrow.block b hlt (fun e => hne e.symm)]
    exact hbk
  have d0 : w2.cell? ⟨b, 0, none⟩ = some (.pointer (some ⟨b, 0, none⟩)) := by rw [Lib.cell_of_heap hb2]; rfl
  have d1 : w2.cell? ⟨b, 1, none⟩ = some v := by rw [Lib.cell_of_heap hb2]; rfl
  have f1 : w2.frozen? ⟨b, 1, none⟩ = false := Lib.frozen_of_heap hb2 1
  obtain ⟨ao, n', cap, rfl⟩ : ∃ ao n' cap, v' = .slice ao n' cap := by
    rcases hown'.2 with ⟨hv, _⟩ | ⟨g, cap, cur, hv, _⟩
    · exact ⟨_, _, _, hv⟩
    · exact ⟨_, _, _, hv⟩
  go_wp2
  go_ret2
  refine ⟨rfl, ?_, ?_⟩
  · exact Lib.BuilderAt.put (T := 69) (e := 5) hB hb2 (bs' := bs ++ Lib.strCells s) (by simpa [Lib.strCells_length] using hown') (by decide)
  · exact (hb1.grown hgrow (by have := hb1.size; omega) (fun k hk => (hown.lt k hk).1)).setCell (p := ⟨b, 1, none⟩) hB _
end Go.Proofs.YtlnanenfpapfkaaDoor

/- A packet's writer: a strings.Builder in a struct; its writing. -/
set_option linter.unusedVariables false
namespace Go.Proofs.YtlnanenfpapfkaaDoor
open Go.Shelf Go.RowKit

/-- Of what was there, blocks of these types alone have turned. -/
structure ModT (T : TypeId → Prop) (w w' : World) : Prop where
  os : w'.os = w.os
  tape : w'.tape = w.tape
  output : w'.output = w.output
  size : w.heap.size ≤ w'.heap.size
  block : ∀ (k : Nat) (cs : Array Value) (t : TypeId) (fz : Nat × Nat), w.heap[k]? = some (Obj.cells cs t fz) → ¬ T t → w'.heap[k]? = some (Obj.cells cs t fz)
theorem ModT.refl (T : TypeId → Prop) (w : World) : ModT T w w := ⟨rfl, rfl, rfl, Nat.le_refl _, fun _ _ _ _ h _ => h⟩
theorem ModT.trans {T : TypeId → Prop} {a b c : World} (h : ModT T a b) (k : ModT T b c) : ModT T a c :=
  ⟨k.os.trans h.os, k.tape.trans h.tape, k.output.trans h.output, Nat.le_trans h.size k.size, fun i cs t fz hi ht => k.block i cs t fz (h.block i cs t fz hi ht) ht⟩
theorem ModT.of_below {T : TypeId → Prop} {a b : World} (h : Below a.heap.size a b) : ModT T a b :=
  ⟨h.os, h.tape, h.output, h.size, fun i cs t fz hi _ => (h.block i (Array.getElem?_eq_some_iff.1 hi).1).trans hi⟩
theorem ModT.weaken {T T' : TypeId → Prop} {a b : World} (h : ModT T a b) (ht : ∀ t, T t → T' t) : ModT T' a b := ⟨h.os, h.tape, h.output, h.size, fun i cs t fz hi hn => h.block i cs t fz hi (fun c => hn (ht t c))⟩
theorem Blk.modT {T : TypeId → Prop} {w w' : World} {R : Nat} {cs : Array Value} {t : TypeId} (h : Blk w R cs t) (m : ModT T w w') (ht : ¬ T t) : Blk w' R cs t := m.block R cs t (0, 0) h ht
theorem ModT.set {T : TypeId → Prop} {a b : World} {R : Nat} {cs : Array Value} {t : TypeId} (h : ModT T a b) (hb : Blk b R cs t) (ht : T t) (i : Nat) (v : Value) : ModT T a (b.setCell ⟨R, i, none⟩ v) :=
  h.trans ⟨rfl, rfl, rfl, by simp [World.setCell], fun k cs' t' fz hk hn => by
    by_cases e : k = R
    · subst e
      unfold Blk at hb
      rw [hb] at hk
      injection hk with hk
      injection hk with _ h2 _
      subst h2
      exact absurd ht hn
    · exact (Below.heap_setCell _ _ _ _ e).trans hk⟩
theorem ModT.grown {T : TypeId → Prop} {a b c : World} {B n size : Nat} {e : TypeId} {v : Value} {xs : List Value} (h : ModT T a b) (hown : b.ownsRow B e size v n xs) (hg : b.grownBy c v.ownBlock) (ht : T e) : ModT T a c :=
  h.trans ⟨hg.os, hg.tape, hg.output, hg.size, fun k cs t fz hk hn => by
    rw [hg.block k (Array.getElem?_eq_some_iff.1 hk).1 ?_]
    · exact hk
    · intro c
      rcases hown.2 with ⟨rfl, _⟩ | ⟨g, cap, cur, rfl, _, hgl, _⟩
      · cases c
      · have e1 : k = g := by simpa [Value.ownBlock] using c
        subst e1
        rw [hgl] at hk
        injection hk with hk
        injection hk with _ h2 _
        subst h2
        exact hn ht⟩
theorem ModT.freeze {T : TypeId → Prop} {a b : World} {g : Nat} {cs : Array Value} {t : TypeId} {fz : Nat × Nat} (h : ModT T a b) (hb : b.heap[g]? = some (Obj.cells cs t fz)) (ht : T t) (n : Nat) : ModT T a (b.freeze ⟨g, 0, none⟩ n) := by
  refine h.trans ?_
  unfold World.freeze
  split
  · exact ModT.refl _ _
  · refine ⟨rfl, rfl, rfl, by simp, fun k cs' t' fz' hk hn => ?_⟩
    simp only [Array.getElem?_modify]
    split
    · rename_i e
      subst e
      rw [hb] at hk
      injection hk with hk
      injection hk with _ h2 _
      subst h2
      exact absurd ht hn
    · exact hk
/-- The writer's own types. -/
def wT (t : TypeId) : Prop := t = 71 ∨ t = 5
/-- A writer at block b that holds the bytes s and the code c. -/
def WrAt (B b : Nat) (s : ByteArray) (c : Int) (w : World) : Prop :=
  B ≤ b ∧ ∃ p v, (p = .pointer none ∨ p = .pointer (some ⟨b, 0, none⟩)) ∧ Blk w b #[p, v, .int .u8 c] 71 ∧ w.ownsRow B 5 1 v s.size (Lib.byteCells s.data.toList)
theorem byte_len (s : ByteArray) : (Lib.byteCells s.data.toList).length = s.size := by rw [Lib.byteCells_length]; rfl
theorem wr_modT {T : TypeId → Prop} {B b : Nat} {s : ByteArray} {c : Int} {w w' : World} (h : WrAt B b s c w) (m : ModT T w w') (h1 : ¬ T 71) (h2 : ¬ T 5) : WrAt B b s c w' := by
  obtain ⟨hB, p, v, hp, hb, hown⟩ := h
  refine ⟨hB, p, v, hp, hb.modT m h1, hown.1, ?_⟩
  rcases hown.2 with h0 | ⟨g, cap, cur, rfl, hg, hh, hrest⟩
  · exact .inl h0
  · exact .inr ⟨g, cap, cur, rfl, hg, m.block g cur _ _ hh h2, hrest⟩
theorem wr_below {B b : Nat} {s : ByteArray} {c : Int} {w w' : World} (h : WrAt B b s c w) (m : Below w.heap.size w w') : WrAt B b s c w' := wr_modT (T := fun _ => False) h (ModT.of_below m) (fun h => h) (fun h => h)
theorem w_lies : liesAt Tryd.prog Tryd.prog.depth 71 (3 / Tryd.prog.cellsOf 71) 0 69 1 = true := by kernel_rfl
theorem blk_shape {w : World} {b : Nat} {cs : Array Value} {t : TypeId} (h : Blk w b cs t) : w.shape? b = some (t, cs.size) := by unfold Blk at h; simp [World.shape?, h]
set_option maxHeartbeats 1000000 in
set_option maxRecDepth 100000 in
theorem wcc_used (b : Nat) (v : Value) (c : Int) (w : World) (hb : Blk w b #[.pointer (some ⟨b, 0, none⟩), v, .int .u8 c] 71) :
    Calls Tryd.prog 102 #[.pointer (some ⟨b, 0, none⟩)] w fun e w' => e = .returned (.tuple #[]) ∧ w' = w := cc_used b w (hb.cell 0)
set_option maxHeartbeats 1000000 in
set_option maxRecDepth 100000 in
theorem wcc_fresh (b : Nat) (v : Value) (c : Int) (w : World) (hb : Blk w b #[.pointer none, v, .int .u8 c] 71) :
    Calls Tryd.prog 102 #[.pointer (some ⟨b, 0, none⟩)] w fun e w' => e = .returned (.tuple #[]) ∧ w' = w.setCell ⟨b, 0, none⟩ (.pointer (some ⟨b, 0, none⟩)) := by
  obtain ⟨j, hj, hjs⟩ := Option.map_eq_some_iff.1 b_size
  have h0 : w.cell? ⟨b, 0, none⟩ = some (.pointer none) := hb.cell 0
  have hsh : w.shape? b = some (71, 3) := blk_shape hb
  have hfz : w.frozen? ⟨b, 0, none⟩ = false := hb.frozen 0
  clear hb
  go_enter Tryd.func102, Tryd.ntmps102
  go_wp2
  rw [Lib.run_to_unsafe w ⟨b, 0, none⟩ Tryd.underlying67 Tryd.underlying156 hj (by rw [hjs]; decide) hsh (Nat.zero_lt_succ 2)]
  simp only [Result.andThen]
  rw [Oper.upon_value]
  go_wp2
  rw [run_callFunc_extern Tryd.func113 (by kernel_rfl) (by kernel_rfl) (by kernel_rfl) (e := Extern.AbiNoEscape.same) (by kernel_rfl)]
  rw [Lib.run_noEscape]
  simp only [Result.andThen]
  rw [Oper.upon_value]
  go_wp2
  rw [Lib.run_from_unsafe w ⟨b, 0, none⟩ Tryd.underlying156 Tryd.underlying67 hj hsh w_lies]
  simp only [Result.andThen]
  rw [Oper.upon_value]
  go_wp2
  go_end0
  exact ⟨rfl, rfl⟩
theorem wcc_any (b : Nat) (p v : Value) (c : Int) (w : World) (hp : p = .pointer none ∨ p = .pointer (some ⟨b, 0, none⟩)) (hb : Blk w b #[p, v, .int .u8 c] 71) :
    Calls Tryd.prog 102 #[.pointer (some ⟨b, 0, none⟩)] w fun e w' => e = .returned (.tuple #[]) ∧ Blk w' b #[.pointer (some ⟨b, 0, none⟩), v, .int .u8 c] 71 ∧ Mod (· = b) w w' := by
  rcases hp with rfl | rfl
  · refine (wcc_fresh b v c w hb).mono ?_
    rintro e w' ⟨rfl, rfl⟩
    exact ⟨rfl, hb.set 0 _, (Mod.refl (· = b) w).setCell (p := ⟨b, 0, none⟩) (.inl rfl) _⟩
  · refine (wcc_used b v c w hb).mono ?_
    rintro e w' ⟨rfl, rfl⟩
    exact ⟨rfl, hb, Mod.refl _ _⟩
theorem Mod.modT {T : TypeId → Prop} {w w' : World} {b : Nat} {cs : Array Value} {t : TypeId} (m : Mod (· = b) w w') (hb : Blk w b cs t) (ht : T t) : ModT T w w' :=
  ⟨m.os, m.tape, m.output, m.size, fun k cs' t' fz hk hn => by
    by_cases e : k = b
    · subst e
      unfold Blk at hb
      rw [hb] at hk
      injection hk with hk
      injection hk with _ h2 _
      subst h2
      exact absurd ht hn
    · exact (m.block k (Array.getElem?_eq_some_iff.1 hk).1 e).trans hk⟩
set_option maxHeartbeats 2000000 in
set_option maxRecDepth 100000 in
theorem wws_any (B b : Nat) (s t : ByteArray) (c : Int) (w : World) (h : WrAt B b s c w) (hlen : s.size + t.size ≤ 140737488355328) (hBw : B ≤ w.heap.size) :
    Calls Tryd.prog 86 #[.pointer (some ⟨b, 0, none⟩), .string t] w fun e w' => e = .returned (.tuple #[.int .i64 t.size, .nilIface]) ∧ WrAt B b (s ++ t) c w' ∧ Below B w w' ∧ ModT wT w w' := by
  obtain ⟨i0, hi, hz0, hz1, hz2⟩ := info_parts b_byte
  obtain ⟨hB, p, v, hp, hb, hown⟩ := h
  have CC := Lib.hid (wcc_any b p v c w hp hb)
  have HB := Lib.hid hb
  have HO := Lib.hid hown
  clear hb hown hp
  go_enter Tryd.func86, Tryd.ntmps86
  go_wp2_with (go_at_call 102; refine CC.out.mono ?_)
  rintro e w1 ⟨rfl, hb1, hm1⟩
  have HB1 := Lib.hid hb1
  have hne : v.ownBlock ≠ some b := own_ne HO.out HB.out (by decide)
  have HO1 := Lib.hid (own_mod HO.out hm1 (fun g e c => hne (e.trans (by rw [c]))))
  have M1 := Lib.hid (Mod.modT (T := wT) hm1 HB.out (.inl rfl))
  have B1 := Lib.hid (hm1.below hBw (fun k e => by omega))
  have c0 := hb1.cell 0
  have c1 := hb1.cell 1
  simp only [List.getElem?_toArray, List.getElem?_cons_zero, List.getElem?_cons_succ] at c0 c1
  have hBw1 : B ≤ w1.heap.size := Nat.le_trans hBw hm1.size
  have h63 : s.size + t.size ≤ maxLen := by unfold maxLen; omega
  clear hb1 hm1
  go_wp2_with (at_builtin; refine Lib.wpList_append_own_string _ rfl _ _ 22 9 rfl B 5 i0 Tryd.underlying22 Tryd.underlying9 hi hz0 hz1 hz2 _ _ _ rfl HO1.out t rfl h63 hlen hBw1 ?_)
  intro v' w2 hown' hgrow _
  have HB2 := Lib.hid (HB1.out.grown hgrow hne)
  have HO2 := Lib.hid hown'
  have M2 := Lib.hid (M1.out.grown HO1.out hgrow (.inr rfl))
  have B2 := Lib.hid (B1.out.grown hgrow hBw1 (fun k hk => (HO1.out.lt k hk).1))
  have d0 := HB2.out.cell 0
  have d1 := HB2.out.cell 1
  simp only [List.getElem?_toArray, List.getElem?_cons_zero, List.getElem?_cons_succ] at d0 d1
  have f1 := HB2.out.frozen 1
  have hne2 : v'.ownBlock ≠ some b := own_ne HO2.out HB2.out (by decide)
  obtain ⟨ao, n', cap, rfl⟩ : ∃ ao n' cap, v' = .slice ao n' cap := by
    rcases hown'.2 with ⟨hv, _⟩ | ⟨g, cap, cur, hv, _⟩
    · exact ⟨_, _, _, hv⟩
    · exact ⟨_, _, _, hv⟩
  clear hown' hgrow
  go_wp2
  go_ret2
  refine ⟨rfl, ⟨hB, _, _, .inr rfl, HB2.out.set 1 _, ?_⟩, B2.out.setCell (p := ⟨b, 1, none⟩) hB _, M2.out.set HB2.out (.inl rfl) 1 _⟩
  have e : Lib.byteCells (s ++ t).data.toList = Lib.byteCells s.data.toList ++ Lib.strCells t := by
    rw [ByteArray.data_append, Array.toList_append, Lib.byteCells_append]; rfl
  rw [e, ByteArray.size_append]
  exact own_mod HO2.out ((Mod.refl (· = b) _).setCell (p := ⟨b, 1, none⟩) (.inl rfl) _) (fun g e c => hne2 (e.trans (by rw [c])))
set_option maxHeartbeats 1000000 in
set_option maxRecDepth 100000 in
theorem wlen_any (B b : Nat) (s : ByteArray) (c : Int) (w : World) (h : WrAt B b s c w) :
    Calls Tryd.prog 19 #[.pointer (some ⟨b, 0, none⟩)] w fun e w' => e = .returned (.int .i64 s.size) ∧ w = w' := by
  obtain ⟨hB, p, v, hp, hb, hown⟩ := h
  obtain ⟨ao, cap, rfl⟩ : ∃ ao cap, v = .slice ao s.size cap := by
    rcases hown.2 with ⟨hv, h0⟩ | ⟨g, cap, cur, hv, _⟩
    · exact ⟨none, 0, by rw [hv, h0]⟩
    · exact ⟨_, _, hv⟩
  have c1 := hb.cell 1
  simp only [List.getElem?_toArray, List.getElem?_cons_zero, List.getElem?_cons_succ] at c1
  clear hb hown hp
  go_enter Tryd.func19, Tryd.ntmps19
  go_wp2
  go_ret
  exact ⟨rfl, rfl⟩
end Go.Proofs.YtlnanenfpapfkaaDoor
