/- The walk of the laws' packets. -/
import Derived.Test.YtedapgeabpadaaaDoorQkL4
import Derived.Great.BuildSlice
import Derived.Laws.CopyOwn
import Derived.Deep.DeepCutAuto
set_option linter.unusedVariables false
namespace Go.Proofs.YtedapgeabpadaaaDoor
open Go.RowKit Pl

theorem own_slice {w : World} {B : Nat} {e : TypeId} {s n : Nat} {v : Value} {xs : List Value} (h : w.ownsRow B e s v n xs) : ∃ A c, v = .slice A n c := by
  rcases h.2 with ⟨rfl, rfl⟩ | ⟨g, cap, cur, rfl, _⟩
  · exact ⟨_, _, rfl⟩
  · exact ⟨_, _, rfl⟩
/-- The packet ahead of its lists. -/
def pk0 (p : Pk) (np nw : Nat) : Pk := { p with ps := p.ps.take (min np 80), wps := p.wps.take (min nw 80), codes := [], subs := [], filters := [] }

theorem take_min80 {α : Type} (L : List α) : L.take (min L.length 80) = L.take 80 := by
  by_cases hl : L.length ≤ 80
  · rw [Nat.min_eq_left hl, List.take_length, List.take_of_length_le hl]
  · rw [Nat.min_eq_right (by omega)]
set_option maxRecDepth 100000 in
set_option maxHeartbeats 16000000 in
theorem packets_any (p : Pk) (Ac Ap Aw As Af : Option Addr) (nc np nw ns nf kc kp kw ks kf : Nat) (w : World) (hP : PkIn .u8 w p ⟨⟨Ac, nc, kc⟩, ⟨Ap, np, kp⟩, ⟨Aw, nw, kw⟩, ⟨As, ns, ks⟩, ⟨Af, nf, kf⟩⟩) (hC : PkCap ⟨⟨Ac, nc, kc⟩, ⟨Ap, np, kp⟩, ⟨Aw, nw, kw⟩, ⟨As, ns, ks⟩, ⟨Af, nf, kf⟩⟩) :
    Calls Tryd.prog 14 #[.agg (pkA .u8 p ⟨⟨Ac, nc, kc⟩, ⟨Ap, np, kp⟩, ⟨Aw, nw, kw⟩, ⟨As, ns, ks⟩, ⟨Af, nf, kf⟩⟩)] w (PkPost w p) := by
  obtain ⟨m, hm⟩ : ∃ m : Hs, ⟨⟨Ac, nc, kc⟩, ⟨Ap, np, kp⟩, ⟨Aw, nw, kw⟩, ⟨As, ns, ks⟩, ⟨Af, nf, kf⟩⟩ = m := ⟨_, rfl⟩
  rw [hm] at hP hC ⊢
  have h0 := Blk.new w (pkA .u8 p m) 65
  have hb0 : Below w.heap.size w (w.alloc (.cells (pkA .u8 p m) 65)) := (Below.refl _ _).alloc (Nat.le_refl _) _
  obtain ⟨W, hW⟩ : ∃ W, ((w.alloc (.cells (pkA .u8 p m) 65)).alloc (.cells #[.int .i64 0, .bool false, .bool false, .int .i64 0, .int .i64 0, .string ⟨#[]⟩, .string ⟨#[]⟩, .int .u8 0, .slice none 0 0, .slice none 0 0, .string ⟨#[]⟩, .bool false, .int .i64 0, .bool false, .string ⟨#[]⟩, .string ⟨#[]⟩, .int .i64 0, .bool false, .slice none 0 0, .bool false, .bool false, .string ⟨#[]⟩, .string ⟨#[]⟩, .bool false, .slice none 0 0, .slice none 0 0] 45)).alloc (.cells #[.int .i64 0, .bool false, .bool false, .int .i64 0, .int .i64 0, .string ⟨#[]⟩, .string ⟨#[]⟩, .int .i64 0, .slice none 0 0, .slice none 0 0, .string ⟨#[]⟩, .bool false, .int .i64 0, .bool false, .string ⟨#[]⟩, .string ⟨#[]⟩, .int .i64 0, .bool false, .slice none 0 0, .bool false, .bool false, .string ⟨#[]⟩, .string ⟨#[]⟩, .bool false, .slice none 0 0, .slice none 0 0] 52) = W := ⟨_, rfl⟩
  have hx : Blk W w.heap.size (pkA .u8 p m) 65 := by rw [← hW]; exact (h0.alloc _).alloc _
  have hr1 : Blk W (w.heap.size + 1) #[.int .i64 0, .bool false, .bool false, .int .i64 0, .int .i64 0, .string ⟨#[]⟩, .string ⟨#[]⟩, .int .u8 0, .slice none 0 0, .slice none 0 0, .string ⟨#[]⟩, .bool false, .int .i64 0, .bool false, .string ⟨#[]⟩, .string ⟨#[]⟩, .int .i64 0, .bool false, .slice none 0 0, .bool false, .bool false, .string ⟨#[]⟩, .string ⟨#[]⟩, .bool false, .slice none 0 0, .slice none 0 0] 45 := by
    rw [← hW]
    have := Blk.new (w.alloc (.cells (pkA .u8 p m) 65)) #[.int .i64 0, .bool false, .bool false, .int .i64 0, .int .i64 0, .string ⟨#[]⟩, .string ⟨#[]⟩, .int .u8 0, .slice none 0 0, .slice none 0 0, .string ⟨#[]⟩, .bool false, .int .i64 0, .bool false, .string ⟨#[]⟩, .string ⟨#[]⟩, .int .i64 0, .bool false, .slice none 0 0, .bool false, .bool false, .string ⟨#[]⟩, .string ⟨#[]⟩, .bool false, .slice none 0 0, .slice none 0 0] 45
    rw [show (w.alloc (.cells (pkA .u8 p m) 65)).heap.size = w.heap.size + 1 from by simp] at this
    exact this.alloc _
  have hr2 : Blk W (w.heap.size + 2) #[.int .i64 0, .bool false, .bool false, .int .i64 0, .int .i64 0, .string ⟨#[]⟩, .string ⟨#[]⟩, .int .i64 0, .slice none 0 0, .slice none 0 0, .string ⟨#[]⟩, .bool false, .int .i64 0, .bool false, .string ⟨#[]⟩, .string ⟨#[]⟩, .int .i64 0, .bool false, .slice none 0 0, .bool false, .bool false, .string ⟨#[]⟩, .string ⟨#[]⟩, .bool false, .slice none 0 0, .slice none 0 0] 52 := by
    rw [← hW]
    have := Blk.new ((w.alloc (.cells (pkA .u8 p m) 65)).alloc (.cells #[.int .i64 0, .bool false, .bool false, .int .i64 0, .int .i64 0, .string ⟨#[]⟩, .string ⟨#[]⟩, .int .u8 0, .slice none 0 0, .slice none 0 0, .string ⟨#[]⟩, .bool false, .int .i64 0, .bool false, .string ⟨#[]⟩, .string ⟨#[]⟩, .int .i64 0, .bool false, .slice none 0 0, .bool false, .bool false, .string ⟨#[]⟩, .string ⟨#[]⟩, .bool false, .slice none 0 0, .slice none 0 0] 45)) #[.int .i64 0, .bool false, .bool false, .int .i64 0, .int .i64 0, .string ⟨#[]⟩, .string ⟨#[]⟩, .int .i64 0, .slice none 0 0, .slice none 0 0, .string ⟨#[]⟩, .bool false, .int .i64 0, .bool false, .string ⟨#[]⟩, .string ⟨#[]⟩, .int .i64 0, .bool false, .slice none 0 0, .bool false, .bool false, .string ⟨#[]⟩, .string ⟨#[]⟩, .bool false, .slice none 0 0, .slice none 0 0] 52
    rw [show ((w.alloc (.cells (pkA .u8 p m) 65)).alloc (.cells #[.int .i64 0, .bool false, .bool false, .int .i64 0, .int .i64 0, .string ⟨#[]⟩, .string ⟨#[]⟩, .int .u8 0, .slice none 0 0, .slice none 0 0, .string ⟨#[]⟩, .bool false, .int .i64 0, .bool false, .string ⟨#[]⟩, .string ⟨#[]⟩, .int .i64 0, .bool false, .slice none 0 0, .bool false, .bool false, .string ⟨#[]⟩, .string ⟨#[]⟩, .bool false, .slice none 0 0, .slice none 0 0] 45)).heap.size = w.heap.size + 2 from by simp] at this
    exact this
  have hbW : Below w.heap.size w W := by rw [← hW]; exact (hb0.alloc hb0.size _).alloc (hb0.alloc hb0.size _).size _
  obtain ⟨Wa, hWa⟩ : ∃ Wa, W.alloc (.cells #[.int .i64 0, .bool false, .bool false, .int .i64 0, .int .i64 0, .string ⟨#[]⟩, .string ⟨#[]⟩, .int .u8 0, .slice none 0 0, .slice none 0 0, .string ⟨#[]⟩, .bool false, .int .i64 0, .bool false, .string ⟨#[]⟩, .string ⟨#[]⟩, .int .i64 0, .bool false, .slice none 0 0, .bool false, .bool false, .string ⟨#[]⟩, .string ⟨#[]⟩, .bool false, .slice none 0 0, .slice none 0 0] 45) = Wa := ⟨_, rfl⟩
  have hxa : Blk Wa w.heap.size (pkA .u8 p m) 65 := by rw [← hWa]; exact hx.alloc _
  have haa : Blk Wa W.heap.size #[.int .i64 0, .bool false, .bool false, .int .i64 0, .int .i64 0, .string ⟨#[]⟩, .string ⟨#[]⟩, .int .u8 0, .slice none 0 0, .slice none 0 0, .string ⟨#[]⟩, .bool false, .int .i64 0, .bool false, .string ⟨#[]⟩, .string ⟨#[]⟩, .int .i64 0, .bool false, .slice none 0 0, .bool false, .bool false, .string ⟨#[]⟩, .string ⟨#[]⟩, .bool false, .slice none 0 0, .slice none 0 0] 45 := by rw [← hWa]; exact Blk.new _ _ _
  have hr1a : Blk Wa (w.heap.size + 1) #[.int .i64 0, .bool false, .bool false, .int .i64 0, .int .i64 0, .string ⟨#[]⟩, .string ⟨#[]⟩, .int .u8 0, .slice none 0 0, .slice none 0 0, .string ⟨#[]⟩, .bool false, .int .i64 0, .bool false, .string ⟨#[]⟩, .string ⟨#[]⟩, .int .i64 0, .bool false, .slice none 0 0, .bool false, .bool false, .string ⟨#[]⟩, .string ⟨#[]⟩, .bool false, .slice none 0 0, .slice none 0 0] 45 := by rw [← hWa]; exact hr1.alloc _
  have hr2a : Blk Wa (w.heap.size + 2) #[.int .i64 0, .bool false, .bool false, .int .i64 0, .int .i64 0, .string ⟨#[]⟩, .string ⟨#[]⟩, .int .i64 0, .slice none 0 0, .slice none 0 0, .string ⟨#[]⟩, .bool false, .int .i64 0, .bool false, .string ⟨#[]⟩, .string ⟨#[]⟩, .int .i64 0, .bool false, .slice none 0 0, .bool false, .bool false, .string ⟨#[]⟩, .string ⟨#[]⟩, .bool false, .slice none 0 0, .slice none 0 0] 52 := by rw [← hWa]; exact hr2.alloc _
  have hbWa : Below w.heap.size w Wa := by rw [← hWa]; exact hbW.alloc hbW.size _
  have gr : w.heap.size + 2 < W.heap.size := hr2.lt
  obtain ⟨W1, hW1⟩ : ∃ W1, Wa.setRow W.heap.size #[.int .i64 p.kind, .bool p.dup, .bool p.ret, .int .i64 p.q, .int .i64 p.id, .string p.topic, .string p.payload, .int .u8 p.code, .slice none 0 0, .slice none 0 0, .string p.client, .bool p.clean, .int .i64 p.keep, .bool p.hasWill, .string ⟨#[]⟩, .string ⟨#[]⟩, .int .i64 0, .bool false, .slice none 0 0, .bool p.hasUser, .bool p.hasPass, .string p.user, .string p.pass, .bool p.session, .slice none 0 0, .slice none 0 0] = W1 := ⟨_, rfl⟩
  have hx1 : Blk W1 w.heap.size (pkA .u8 p m) 65 := by rw [← hW1]; exact hxa.row_ (by omega) _
  have ha1 : Blk W1 W.heap.size #[.int .i64 p.kind, .bool p.dup, .bool p.ret, .int .i64 p.q, .int .i64 p.id, .string p.topic, .string p.payload, .int .u8 p.code, .slice none 0 0, .slice none 0 0, .string p.client, .bool p.clean, .int .i64 p.keep, .bool p.hasWill, .string ⟨#[]⟩, .string ⟨#[]⟩, .int .i64 0, .bool false, .slice none 0 0, .bool p.hasUser, .bool p.hasPass, .string p.user, .string p.pass, .bool p.session, .slice none 0 0, .slice none 0 0] 45 := by rw [← hW1]; exact haa.row _
  have hr11 : Blk W1 (w.heap.size + 1) #[.int .i64 0, .bool false, .bool false, .int .i64 0, .int .i64 0, .string ⟨#[]⟩, .string ⟨#[]⟩, .int .u8 0, .slice none 0 0, .slice none 0 0, .string ⟨#[]⟩, .bool false, .int .i64 0, .bool false, .string ⟨#[]⟩, .string ⟨#[]⟩, .int .i64 0, .bool false, .slice none 0 0, .bool false, .bool false, .string ⟨#[]⟩, .string ⟨#[]⟩, .bool false, .slice none 0 0, .slice none 0 0] 45 := by rw [← hW1]; exact hr1a.row_ (by omega) _
  have hr21 : Blk W1 (w.heap.size + 2) #[.int .i64 0, .bool false, .bool false, .int .i64 0, .int .i64 0, .string ⟨#[]⟩, .string ⟨#[]⟩, .int .i64 0, .slice none 0 0, .slice none 0 0, .string ⟨#[]⟩, .bool false, .int .i64 0, .bool false, .string ⟨#[]⟩, .string ⟨#[]⟩, .int .i64 0, .bool false, .slice none 0 0, .bool false, .bool false, .string ⟨#[]⟩, .string ⟨#[]⟩, .bool false, .slice none 0 0, .slice none 0 0] 52 := by rw [← hW1]; exact hr2a.row_ (by omega) _
  have hbW1 : Below w.heap.size w W1 := by rw [← hW1]; exact below_setRow hbWa (by omega) _
  obtain ⟨Wb, hWb⟩ : ∃ Wb, W1.alloc (.cells #[.int .i64 0, .bool false, .bool false, .int .i64 0, .int .i64 0, .string ⟨#[]⟩, .string ⟨#[]⟩, .int .i64 0, .slice none 0 0, .slice none 0 0, .string ⟨#[]⟩, .bool false, .int .i64 0, .bool false, .string ⟨#[]⟩, .string ⟨#[]⟩, .int .i64 0, .bool false, .slice none 0 0, .bool false, .bool false, .string ⟨#[]⟩, .string ⟨#[]⟩, .bool false, .slice none 0 0, .slice none 0 0] 52) = Wb := ⟨_, rfl⟩
  have hxb : Blk Wb w.heap.size (pkA .u8 p m) 65 := by rw [← hWb]; exact hx1.alloc _
  have hab : Blk Wb W.heap.size #[.int .i64 p.kind, .bool p.dup, .bool p.ret, .int .i64 p.q, .int .i64 p.id, .string p.topic, .string p.payload, .int .u8 p.code, .slice none 0 0, .slice none 0 0, .string p.client, .bool p.clean, .int .i64 p.keep, .bool p.hasWill, .string ⟨#[]⟩, .string ⟨#[]⟩, .int .i64 0, .bool false, .slice none 0 0, .bool p.hasUser, .bool p.hasPass, .string p.user, .string p.pass, .bool p.session, .slice none 0 0, .slice none 0 0] 45 := by rw [← hWb]; exact ha1.alloc _
  have hbb : Blk Wb W1.heap.size #[.int .i64 0, .bool false, .bool false, .int .i64 0, .int .i64 0, .string ⟨#[]⟩, .string ⟨#[]⟩, .int .i64 0, .slice none 0 0, .slice none 0 0, .string ⟨#[]⟩, .bool false, .int .i64 0, .bool false, .string ⟨#[]⟩, .string ⟨#[]⟩, .int .i64 0, .bool false, .slice none 0 0, .bool false, .bool false, .string ⟨#[]⟩, .string ⟨#[]⟩, .bool false, .slice none 0 0, .slice none 0 0] 52 := by rw [← hWb]; exact Blk.new _ _ _
  have hr1b : Blk Wb (w.heap.size + 1) #[.int .i64 0, .bool false, .bool false, .int .i64 0, .int .i64 0, .string ⟨#[]⟩, .string ⟨#[]⟩, .int .u8 0, .slice none 0 0, .slice none 0 0, .string ⟨#[]⟩, .bool false, .int .i64 0, .bool false, .string ⟨#[]⟩, .string ⟨#[]⟩, .int .i64 0, .bool false, .slice none 0 0, .bool false, .bool false, .string ⟨#[]⟩, .string ⟨#[]⟩, .bool false, .slice none 0 0, .slice none 0 0] 45 := by rw [← hWb]; exact hr11.alloc _
  have hr2b : Blk Wb (w.heap.size + 2) #[.int .i64 0, .bool false, .bool false, .int .i64 0, .int .i64 0, .string ⟨#[]⟩, .string ⟨#[]⟩, .int .i64 0, .slice none 0 0, .slice none 0 0, .string ⟨#[]⟩, .bool false, .int .i64 0, .bool false, .string ⟨#[]⟩, .string ⟨#[]⟩, .int .i64 0, .bool false, .slice none 0 0, .bool false, .bool false, .string ⟨#[]⟩, .string ⟨#[]⟩, .bool false, .slice none 0 0, .slice none 0 0] 52 := by rw [← hWb]; exact hr21.alloc _
  have hbWb : Below w.heap.size w Wb := by rw [← hWb]; exact hbW1.alloc hbW1.size _
  have gab : W.heap.size < W1.heap.size := ha1.lt
  obtain ⟨W2, hW2⟩ : ∃ W2, Wb.setRow W1.heap.size #[.int .i64 p.kind, .bool p.dup, .bool p.ret, .int .i64 p.q, .int .i64 p.id, .string p.topic, .string p.payload, .int .i64 p.code, .slice none 0 0, .slice none 0 0, .string p.client, .bool p.clean, .int .i64 p.keep, .bool p.hasWill, .string ⟨#[]⟩, .string ⟨#[]⟩, .int .i64 0, .bool false, .slice none 0 0, .bool p.hasUser, .bool p.hasPass, .string p.user, .string p.pass, .bool p.session, .slice none 0 0, .slice none 0 0] = W2 := ⟨_, rfl⟩
  have hx2 : Blk W2 w.heap.size (pkA .u8 p m) 65 := by rw [← hW2]; exact hxb.row_ (by omega) _
  have ha2 : Blk W2 W.heap.size #[.int .i64 p.kind, .bool p.dup, .bool p.ret, .int .i64 p.q, .int .i64 p.id, .string p.topic, .string p.payload, .int .u8 p.code, .slice none 0 0, .slice none 0 0, .string p.client, .bool p.clean, .int .i64 p.keep, .bool p.hasWill, .string ⟨#[]⟩, .string ⟨#[]⟩, .int .i64 0, .bool false, .slice none 0 0, .bool p.hasUser, .bool p.hasPass, .string p.user, .string p.pass, .bool p.session, .slice none 0 0, .slice none 0 0] 45 := by rw [← hW2]; exact hab.row_ (by omega) _
  have hb2 : Blk W2 W1.heap.size #[.int .i64 p.kind, .bool p.dup, .bool p.ret, .int .i64 p.q, .int .i64 p.id, .string p.topic, .string p.payload, .int .i64 p.code, .slice none 0 0, .slice none 0 0, .string p.client, .bool p.clean, .int .i64 p.keep, .bool p.hasWill, .string ⟨#[]⟩, .string ⟨#[]⟩, .int .i64 0, .bool false, .slice none 0 0, .bool p.hasUser, .bool p.hasPass, .string p.user, .string p.pass, .bool p.session, .slice none 0 0, .slice none 0 0] 52 := by rw [← hW2]; exact hbb.row _
  have hr12 : Blk W2 (w.heap.size + 1) #[.int .i64 0, .bool false, .bool false, .int .i64 0, .int .i64 0, .string ⟨#[]⟩, .string ⟨#[]⟩, .int .u8 0, .slice none 0 0, .slice none 0 0, .string ⟨#[]⟩, .bool false, .int .i64 0, .bool false, .string ⟨#[]⟩, .string ⟨#[]⟩, .int .i64 0, .bool false, .slice none 0 0, .bool false, .bool false, .string ⟨#[]⟩, .string ⟨#[]⟩, .bool false, .slice none 0 0, .slice none 0 0] 45 := by rw [← hW2]; exact hr1b.row_ (by omega) _
  have hr22 : Blk W2 (w.heap.size + 2) #[.int .i64 0, .bool false, .bool false, .int .i64 0, .int .i64 0, .string ⟨#[]⟩, .string ⟨#[]⟩, .int .i64 0, .slice none 0 0, .slice none 0 0, .string ⟨#[]⟩, .bool false, .int .i64 0, .bool false, .string ⟨#[]⟩, .string ⟨#[]⟩, .int .i64 0, .bool false, .slice none 0 0, .bool false, .bool false, .string ⟨#[]⟩, .string ⟨#[]⟩, .bool false, .slice none 0 0, .slice none 0 0] 52 := by rw [← hW2]; exact hr2b.row_ (by omega) _
  have hbW2 : Below w.heap.size w W2 := by rw [← hW2]; exact below_setRow hbWb (by omega) _
  have HAA := Lib.hid haa
  have HBB := Lib.hid hbb
  have C1 : ∀ X : World, Below w.heap.size w X → _ := fun X hX => props_any Ap np kp (min np 80) p.ps X (by have := hP.pn; rw [← hm] at this; exact this) (by have := hP.pc; rw [← hm] at this; exact this) (by have := hC.p; rw [← hm] at this; exact this) (by have := hP.pr.below hX; rw [← hm] at this; exact this) rfl (by have := hC.pA; rw [← hm] at this; exact this)
  have C2 : ∀ X : World, Below w.heap.size w X → _ := fun X hX => props_any Aw nw kw (min nw 80) p.wps X (by have := hP.wn; rw [← hm] at this; exact this) (by have := hP.wc; rw [← hm] at this; exact this) (by have := hC.w; rw [← hm] at this; exact this) (by have := hP.wr.below hX; rw [← hm] at this; exact this) rfl (by have := hC.wA; rw [← hm] at this; exact this)
  have C1 := Lib.hid C1
  have C2 := Lib.hid C2
  have k0 : W.cell? ⟨w.heap.size, 0, none⟩ = some (.int .i64 p.kind) := by rw [← hm] at hx; exact hx.cell 0
  have k1 : W.cell? ⟨w.heap.size, 1, none⟩ = some (.bool p.dup) := by rw [← hm] at hx; exact hx.cell 1
  have k2 : W.cell? ⟨w.heap.size, 2, none⟩ = some (.bool p.ret) := by rw [← hm] at hx; exact hx.cell 2
  have k3 : W.cell? ⟨w.heap.size, 3, none⟩ = some (.int .i64 p.q) := by rw [← hm] at hx; exact hx.cell 3
  have k4 : W.cell? ⟨w.heap.size, 4, none⟩ = some (.int .i64 p.id) := by rw [← hm] at hx; exact hx.cell 4
  have k5 : W.cell? ⟨w.heap.size, 5, none⟩ = some (.string p.topic) := by rw [← hm] at hx; exact hx.cell 5
  have k6 : W.cell? ⟨w.heap.size, 6, none⟩ = some (.string p.payload) := by rw [← hm] at hx; exact hx.cell 6
  have k7 : W.cell? ⟨w.heap.size, 7, none⟩ = some (.int .u8 p.code) := by rw [← hm] at hx; exact hx.cell 7
  have k10 : W.cell? ⟨w.heap.size, 10, none⟩ = some (.string p.client) := by rw [← hm] at hx; exact hx.cell 10
  have k11 : W.cell? ⟨w.heap.size, 11, none⟩ = some (.bool p.clean) := by rw [← hm] at hx; exact hx.cell 11
  have k12 : W.cell? ⟨w.heap.size, 12, none⟩ = some (.int .i64 p.keep) := by rw [← hm] at hx; exact hx.cell 12
  have k13 : W.cell? ⟨w.heap.size, 13, none⟩ = some (.bool p.hasWill) := by rw [← hm] at hx; exact hx.cell 13
  have k19 : W.cell? ⟨w.heap.size, 19, none⟩ = some (.bool p.hasUser) := by rw [← hm] at hx; exact hx.cell 19
  have k20 : W.cell? ⟨w.heap.size, 20, none⟩ = some (.bool p.hasPass) := by rw [← hm] at hx; exact hx.cell 20
  have k21 : W.cell? ⟨w.heap.size, 21, none⟩ = some (.string p.user) := by rw [← hm] at hx; exact hx.cell 21
  have k22 : W.cell? ⟨w.heap.size, 22, none⟩ = some (.string p.pass) := by rw [← hm] at hx; exact hx.cell 22
  have k23 : W.cell? ⟨w.heap.size, 23, none⟩ = some (.bool p.session) := by rw [← hm] at hx; exact hx.cell 23
  have e0 : W1.cell? ⟨w.heap.size, 0, none⟩ = some (.int .i64 p.kind) := by rw [← hm] at hx1; exact hx1.cell 0
  have e1 : W1.cell? ⟨w.heap.size, 1, none⟩ = some (.bool p.dup) := by rw [← hm] at hx1; exact hx1.cell 1
  have e2 : W1.cell? ⟨w.heap.size, 2, none⟩ = some (.bool p.ret) := by rw [← hm] at hx1; exact hx1.cell 2
  have e3 : W1.cell? ⟨w.heap.size, 3, none⟩ = some (.int .i64 p.q) := by rw [← hm] at hx1; exact hx1.cell 3
  have e4 : W1.cell? ⟨w.heap.size, 4, none⟩ = some (.int .i64 p.id) := by rw [← hm] at hx1; exact hx1.cell 4
  have e5 : W1.cell? ⟨w.heap.size, 5, none⟩ = some (.string p.topic) := by rw [← hm] at hx1; exact hx1.cell 5
  have e6 : W1.cell? ⟨w.heap.size, 6, none⟩ = some (.string p.payload) := by rw [← hm] at hx1; exact hx1.cell 6
  have e7 : W1.cell? ⟨w.heap.size, 7, none⟩ = some (.int .u8 p.code) := by rw [← hm] at hx1; exact hx1.cell 7
  have e10 : W1.cell? ⟨w.heap.size, 10, none⟩ = some (.string p.client) := by rw [← hm] at hx1; exact hx1.cell 10
  have e11 : W1.cell? ⟨w.heap.size, 11, none⟩ = some (.bool p.clean) := by rw [← hm] at hx1; exact hx1.cell 11
  have e12 : W1.cell? ⟨w.heap.size, 12, none⟩ = some (.int .i64 p.keep) := by rw [← hm] at hx1; exact hx1.cell 12
  have e13 : W1.cell? ⟨w.heap.size, 13, none⟩ = some (.bool p.hasWill) := by rw [← hm] at hx1; exact hx1.cell 13
  have e19 : W1.cell? ⟨w.heap.size, 19, none⟩ = some (.bool p.hasUser) := by rw [← hm] at hx1; exact hx1.cell 19
  have e20 : W1.cell? ⟨w.heap.size, 20, none⟩ = some (.bool p.hasPass) := by rw [← hm] at hx1; exact hx1.cell 20
  have e21 : W1.cell? ⟨w.heap.size, 21, none⟩ = some (.string p.user) := by rw [← hm] at hx1; exact hx1.cell 21
  have e22 : W1.cell? ⟨w.heap.size, 22, none⟩ = some (.string p.pass) := by rw [← hm] at hx1; exact hx1.cell 22
  have e23 : W1.cell? ⟨w.heap.size, 23, none⟩ = some (.bool p.session) := by rw [← hm] at hx1; exact hx1.cell 23
  have f9 : W2.cell? ⟨w.heap.size, 9, none⟩ = some (.slice Ap np kp) := by rw [← hm] at hx2; exact hx2.cell 9
  have ne1 : w.heap.size ≠ W.heap.size := by omega
  have ne2 : w.heap.size ≠ W1.heap.size := by omega
  have ne3 : W.heap.size ≠ w.heap.size := Ne.symm ne1
  have ne4 : W1.heap.size ≠ w.heap.size := Ne.symm ne2
  have ne5 : W.heap.size ≠ W1.heap.size := by omega
  have ne6 : W1.heap.size ≠ W.heap.size := Ne.symm ne5
  have cd0 := hP.fits.code.1
  have cd1 := hP.fits.code.2
  have HX2 := Lib.hid hx2
  have HA2 := Lib.hid ha2
  have HB2 := Lib.hid hb2
  have HR1 := Lib.hid hr12
  have HR2 := Lib.hid hr22
  have BW2 := Lib.hid hbW2
  have HM := Lib.hid hm
  have HP := Lib.hid hP
  have HC := Lib.hid hC
  have GR := Lib.hid gr
  have GAB := Lib.hid gab
  clear h0 hb0 hx hr1 hr2 hbW hxa haa hr1a hr2a hbWa hx1 ha1 hr11 hr21 hbW1 hxb hab hbb hr1b hr2b hbWb hx2 ha2 hb2 hr12 hr22 hbW2 hm hP hC gr gab
  go_enter Tryd.func14, Tryd.ntmps14
  go_wp2_with (first | (refine wpList_buildTo rfl 45 _ rfl (some 46) rfl #[.int .i64 p.kind, .bool p.dup, .bool p.ret, .int .i64 p.q, .int .i64 p.id, .string p.topic, .string p.payload, .int .u8 p.code, .slice none 0 0, .slice none 0 0, .string p.client, .bool p.clean, .int .i64 p.keep, .bool p.hasWill, .string ⟨#[]⟩, .string ⟨#[]⟩, .int .i64 0, .bool false, .slice none 0 0, .bool p.hasUser, .bool p.hasPass, .string p.user, .string p.pass, .bool p.session, .slice none 0 0, .slice none 0 0] (by kernel_rfl) ?_) | (refine wpList_store_rowTo rfl 45 (.tmp 4) (.tmp 46) rfl rfl W.heap.size #[.int .i64 p.kind, .bool p.dup, .bool p.ret, .int .i64 p.q, .int .i64 p.id, .string p.topic, .string p.payload, .int .u8 p.code, .slice none 0 0, .slice none 0 0, .string p.client, .bool p.clean, .int .i64 p.keep, .bool p.hasWill, .string ⟨#[]⟩, .string ⟨#[]⟩, .int .i64 0, .bool false, .slice none 0 0, .bool p.hasUser, .bool p.hasPass, .string p.user, .string p.pass, .bool p.session, .slice none 0 0, .slice none 0 0] rfl rfl 45 #[.int .i64 0, .bool false, .bool false, .int .i64 0, .int .i64 0, .string ⟨#[]⟩, .string ⟨#[]⟩, .int .u8 0, .slice none 0 0, .slice none 0 0, .string ⟨#[]⟩, .bool false, .int .i64 0, .bool false, .string ⟨#[]⟩, .string ⟨#[]⟩, .int .i64 0, .bool false, .slice none 0 0, .bool false, .bool false, .string ⟨#[]⟩, .string ⟨#[]⟩, .bool false, .slice none 0 0, .slice none 0 0] HAA.out ppk_size rfl (by kernel_rfl) ?_) | (refine wpList_buildTo rfl 52 _ rfl (some 82) rfl #[.int .i64 p.kind, .bool p.dup, .bool p.ret, .int .i64 p.q, .int .i64 p.id, .string p.topic, .string p.payload, .int .i64 p.code, .slice none 0 0, .slice none 0 0, .string p.client, .bool p.clean, .int .i64 p.keep, .bool p.hasWill, .string ⟨#[]⟩, .string ⟨#[]⟩, .int .i64 0, .bool false, .slice none 0 0, .bool p.hasUser, .bool p.hasPass, .string p.user, .string p.pass, .bool p.session, .slice none 0 0, .slice none 0 0] (by kernel_rfl) ?_) | (refine wpList_store_rowTo rfl 52 (.tmp 5) (.tmp 82) rfl rfl W1.heap.size #[.int .i64 p.kind, .bool p.dup, .bool p.ret, .int .i64 p.q, .int .i64 p.id, .string p.topic, .string p.payload, .int .i64 p.code, .slice none 0 0, .slice none 0 0, .string p.client, .bool p.clean, .int .i64 p.keep, .bool p.hasWill, .string ⟨#[]⟩, .string ⟨#[]⟩, .int .i64 0, .bool false, .slice none 0 0, .bool p.hasUser, .bool p.hasPass, .string p.user, .string p.pass, .bool p.session, .slice none 0 0, .slice none 0 0] rfl rfl 52 #[.int .i64 0, .bool false, .bool false, .int .i64 0, .int .i64 0, .string ⟨#[]⟩, .string ⟨#[]⟩, .int .i64 0, .slice none 0 0, .slice none 0 0, .string ⟨#[]⟩, .bool false, .int .i64 0, .bool false, .string ⟨#[]⟩, .string ⟨#[]⟩, .int .i64 0, .bool false, .slice none 0 0, .bool false, .bool false, .string ⟨#[]⟩, .string ⟨#[]⟩, .bool false, .slice none 0 0, .slice none 0 0] HBB.out rpk_size' rfl (by kernel_rfl) ?_))
  (with_reducible refine (C1.out _ BW2.out).mono ?_)
  rintro e w3 ⟨v1, v2, rfl, o1, o2, b3⟩
  obtain ⟨A1, c1, rfl⟩ := own_slice o1
  obtain ⟨A2, c2, rfl⟩ := own_slice o2
  have O1 := Lib.hid (own_lower o1 BW2.out.size)
  have O2 := Lib.hid (own_lower o2 BW2.out.size)
  have BW3 := Lib.hid (BW2.out.trans (b3.mono BW2.out.size))
  have hx3 := HX2.out.of_below b3
  have ha3 := HA2.out.of_below b3
  have hb3 := HB2.out.of_below b3
  have HR13 := Lib.hid (HR1.out.of_below b3)
  have HR23 := Lib.hid (HR2.out.of_below b3)
  rw [← HM.out] at hx3
  have f14 : w3.cell? ⟨w.heap.size, 14, none⟩ = some (.string p.wt) := hx3.cell 14
  have f15 : w3.cell? ⟨w.heap.size, 15, none⟩ = some (.string p.wp) := hx3.cell 15
  have f16 : w3.cell? ⟨w.heap.size, 16, none⟩ = some (.int .i64 p.wq) := hx3.cell 16
  have f17 : w3.cell? ⟨w.heap.size, 17, none⟩ = some (.bool p.wr) := hx3.cell 17
  have f18 : w3.cell? ⟨w.heap.size, 18, none⟩ = some (.slice Aw nw kw) := hx3.cell 18
  have a9 : w3.cell? ⟨W.heap.size, 9, none⟩ = some (.slice none 0 0) := ha3.cell 9
  have za9 := ha3.frozen 9
  have a14 : w3.cell? ⟨W.heap.size, 14, none⟩ = some (.string ⟨#[]⟩) := ha3.cell 14
  have za14 := ha3.frozen 14
  have a15 : w3.cell? ⟨W.heap.size, 15, none⟩ = some (.string ⟨#[]⟩) := ha3.cell 15
  have za15 := ha3.frozen 15
  have a16 : w3.cell? ⟨W.heap.size, 16, none⟩ = some (.int .i64 0) := ha3.cell 16
  have za16 := ha3.frozen 16
  have a17 : w3.cell? ⟨W.heap.size, 17, none⟩ = some (.bool false) := ha3.cell 17
  have za17 := ha3.frozen 17
  have a18 : w3.cell? ⟨W.heap.size, 18, none⟩ = some (.slice none 0 0) := ha3.cell 18
  have za18 := ha3.frozen 18
  have b9 : w3.cell? ⟨W1.heap.size, 9, none⟩ = some (.slice none 0 0) := hb3.cell 9
  have zb9 := hb3.frozen 9
  have b14 : w3.cell? ⟨W1.heap.size, 14, none⟩ = some (.string ⟨#[]⟩) := hb3.cell 14
  have zb14 := hb3.frozen 14
  have b15 : w3.cell? ⟨W1.heap.size, 15, none⟩ = some (.string ⟨#[]⟩) := hb3.cell 15
  have zb15 := hb3.frozen 15
  have b16 : w3.cell? ⟨W1.heap.size, 16, none⟩ = some (.int .i64 0) := hb3.cell 16
  have zb16 := hb3.frozen 16
  have b17 : w3.cell? ⟨W1.heap.size, 17, none⟩ = some (.bool false) := hb3.cell 17
  have zb17 := hb3.frozen 17
  have b18 : w3.cell? ⟨W1.heap.size, 18, none⟩ = some (.slice none 0 0) := hb3.cell 18
  have zb18 := hb3.frozen 18
  rw [HM.out] at hx3
  have HX3 := Lib.hid hx3
  have HA3 := Lib.hid ha3
  have HB3 := Lib.hid hb3
  clear o1 o2 b3 hx3 ha3 hb3 HX2 HA2 HB2 HR1 HR2 
  go_upto_region 6 with fail
  rename_i K6 hK6
  have HK := Lib.hid hK6
  clear hK6
  go_wp2_with fail
  obtain ⟨K, hK⟩ : ∃ K, ((((((((((((w3.setCell ⟨W.heap.size, 9, none⟩ (.slice A1 (min np 80) c1)).setCell ⟨W1.heap.size, 9, none⟩ (.slice A2 (min np 80) c2)).setCell ⟨W.heap.size, 14, none⟩ (.string p.wt)).setCell ⟨W.heap.size, 15, none⟩ (.string p.wp)).setCell ⟨W.heap.size, 16, none⟩ (.int .i64 p.wq)).setCell ⟨W.heap.size, 17, none⟩ (.bool p.wr)).setCell ⟨W.heap.size, 18, none⟩ (.slice none 0 0)).setCell ⟨W1.heap.size, 14, none⟩ (.string p.wt)).setCell ⟨W1.heap.size, 15, none⟩ (.string p.wp)).setCell ⟨W1.heap.size, 16, none⟩ (.int .i64 p.wq)).setCell ⟨W1.heap.size, 17, none⟩ (.bool p.wr)).setCell ⟨W1.heap.size, 18, none⟩ (.slice none 0 0)) = K := ⟨_, rfl⟩
  rw [hK]
  have mK : Mod (fun g => g = W.heap.size ∨ g = W1.heap.size) w3 K := by rw [← hK]; exact (((((((((((((Mod.refl (fun g => g = W.heap.size ∨ g = W1.heap.size) _).setCell (p := ⟨W.heap.size, 9, none⟩) (.inl (.inl rfl)) (.slice A1 (min np 80) c1)).setCell (p := ⟨W1.heap.size, 9, none⟩) (.inl (.inr rfl)) (.slice A2 (min np 80) c2)).setCell (p := ⟨W.heap.size, 14, none⟩) (.inl (.inl rfl)) (.string p.wt)).setCell (p := ⟨W.heap.size, 15, none⟩) (.inl (.inl rfl)) (.string p.wp)).setCell (p := ⟨W.heap.size, 16, none⟩) (.inl (.inl rfl)) (.int .i64 p.wq)).setCell (p := ⟨W.heap.size, 17, none⟩) (.inl (.inl rfl)) (.bool p.wr)).setCell (p := ⟨W.heap.size, 18, none⟩) (.inl (.inl rfl)) (.slice none 0 0)).setCell (p := ⟨W1.heap.size, 14, none⟩) (.inl (.inr rfl)) (.string p.wt)).setCell (p := ⟨W1.heap.size, 15, none⟩) (.inl (.inr rfl)) (.string p.wp)).setCell (p := ⟨W1.heap.size, 16, none⟩) (.inl (.inr rfl)) (.int .i64 p.wq)).setCell (p := ⟨W1.heap.size, 17, none⟩) (.inl (.inr rfl)) (.bool p.wr)).setCell (p := ⟨W1.heap.size, 18, none⟩) (.inl (.inr rfl)) (.slice none 0 0))
  have bK : Below w.heap.size w K := BW3.out.trans (mK.below BW3.out.size (fun k hk => by have := GR.out; have := GAB.out; omega))
  have ha4 := ((((((((((((HA3.out.set 9 (.slice A1 (min np 80) c1)).other ne5 9 (.slice A2 (min np 80) c2)).set 14 (.string p.wt)).set 15 (.string p.wp)).set 16 (.int .i64 p.wq)).set 17 (.bool p.wr)).set 18 (.slice none 0 0)).other ne5 14 (.string p.wt)).other ne5 15 (.string p.wp)).other ne5 16 (.int .i64 p.wq)).other ne5 17 (.bool p.wr)).other ne5 18 (.slice none 0 0))
  rw [hK] at ha4
  have hb4 := ((((((((((((HB3.out.other ne6 9 (.slice A1 (min np 80) c1)).set 9 (.slice A2 (min np 80) c2)).other ne6 14 (.string p.wt)).other ne6 15 (.string p.wp)).other ne6 16 (.int .i64 p.wq)).other ne6 17 (.bool p.wr)).other ne6 18 (.slice none 0 0)).set 14 (.string p.wt)).set 15 (.string p.wp)).set 16 (.int .i64 p.wq)).set 17 (.bool p.wr)).set 18 (.slice none 0 0))
  rw [hK] at hb4
  have hx4 := HX3.out.mod mK (fun hx => by have := GR.out; have := GAB.out; omega)
  have hr14 := HR13.out.mod mK (fun hx => by have := GR.out; have := GAB.out; omega)
  have hr24 := HR23.out.mod mK (fun hx => by have := GR.out; have := GAB.out; omega)
  have o1 := own_mod O1.out mK (fun g hg hx => by rcases hx with e | e; exact own_ne O1.out HA3.out (by decide) (e ▸ hg); exact own_ne O1.out HB3.out (by decide) (e ▸ hg))
  have o2 := own_mod O2.out mK (fun g hg hx => by rcases hx with e | e; exact own_ne O2.out HA3.out (by decide) (e ▸ hg); exact own_ne O2.out HB3.out (by decide) (e ▸ hg))
  clear hK mK
  have BK := Lib.hid bK
  (with_reducible refine (C2.out _ BK.out).mono ?_)
  rintro e w4 ⟨v3, v4, rfl, o3, o4, b4⟩
  obtain ⟨A3, c3, rfl⟩ := own_slice o3
  obtain ⟨A4, c4, rfl⟩ := own_slice o4
  have o1 := own_mod o1 (Mod.of_below (S := fun _ => False) b4) (fun _ _ h => h)
  have o2 := own_mod o2 (Mod.of_below (S := fun _ => False) b4) (fun _ _ h => h)
  have o3 := own_lower o3 BK.out.size
  have o4 := own_lower o4 BK.out.size
  have b5 := BK.out.trans (b4.mono BK.out.size)
  have hx5 := hx4.of_below b4
  have ha5 := ha4.of_below b4
  have hb5 := hb4.of_below b4
  have hr15 := hr14.of_below b4
  have hr25 := hr24.of_below b4
  have a18 : w4.cell? ⟨W.heap.size, 18, none⟩ = some (.slice none 0 0) := ha5.cell 18
  have b18 : w4.cell? ⟨W1.heap.size, 18, none⟩ = some (.slice none 0 0) := hb5.cell 18
  have z18 := ha5.frozen 18
  have y18 := hb5.frozen 18
  obtain ⟨Z, hZ⟩ : ∃ Z, ((w4.setCell ⟨W.heap.size, 18, none⟩ (.slice A3 (min nw 80) c3)).setCell ⟨W1.heap.size, 18, none⟩ (.slice A4 (min nw 80) c4)) = Z := ⟨_, rfl⟩
  have mZ : Mod (fun g => g = W.heap.size ∨ g = W1.heap.size) w4 Z := by rw [← hZ]; exact (((Mod.refl (fun g => g = W.heap.size ∨ g = W1.heap.size) _).setCell (p := ⟨W.heap.size, 18, none⟩) (.inl (.inl rfl)) (.slice A3 (min nw 80) c3)).setCell (p := ⟨W1.heap.size, 18, none⟩) (.inl (.inr rfl)) (.slice A4 (min nw 80) c4))
  have BZ : Hid (Below w.heap.size w Z) := Lib.hid (b5.trans (mZ.below b5.size (fun k hk => by have := GR.out; have := GAB.out; omega)))
  have haZ := ((ha5.set 18 (.slice A3 (min nw 80) c3)).other ne5 18 (.slice A4 (min nw 80) c4))
  rw [hZ] at haZ
  have hbZ := ((hb5.other ne6 18 (.slice A3 (min nw 80) c3)).set 18 (.slice A4 (min nw 80) c4))
  rw [hZ] at hbZ
  have hxZ := hx5.mod mZ (fun hx => by have := GR.out; have := GAB.out; omega)
  have HR1 := Lib.hid (hr15.mod mZ (fun hx => by have := GR.out; have := GAB.out; omega))
  have HR2 := Lib.hid (hr25.mod mZ (fun hx => by have := GR.out; have := GAB.out; omega))
  have keep : ∀ {e : TypeId} {s n : Nat} {v : Value} {x : List Value}, w4.ownsRow w.heap.size e s v n x → 45 ≠ e → 52 ≠ e → Z.ownsRow w.heap.size e s v n x := fun o a1 a2 =>
    own_mod o mZ (fun g hg hx => by rcases hx with e | e; exact own_ne o ha5 a1 (e ▸ hg); exact own_ne o hb5 a2 (e ▸ hg))
  have hT : Two w.heap.size Z W.heap.size W1.heap.size (pk0 p np nw) ⟨⟨none, 0, 0⟩, ⟨A1, min np 80, c1⟩, ⟨A3, min nw 80, c3⟩, ⟨none, 0, 0⟩, ⟨none, 0, 0⟩⟩ ⟨⟨none, 0, 0⟩, ⟨A2, min np 80, c2⟩, ⟨A4, min nw 80, c4⟩, ⟨none, 0, 0⟩, ⟨none, 0, 0⟩⟩ := by
    have e1 := congrArg (fun m : Hs => m.p.n) HM.out
    have e2 := congrArg (fun m : Hs => m.w.n) HM.out
    have l1 : (p.ps.take (min np 80)).length = min np 80 := by rw [List.length_take, HP.out.pn, ← HM.out]; simp only; omega
    have l2 : (p.wps.take (min nw 80)).length = min nw 80 := by rw [List.length_take, HP.out.wn, ← HM.out]; simp only; omega
    exact ⟨haZ, hbZ, own_cast (keep o1 (by decide) (by decide)) rfl l1.symm rfl, own_cast (keep o2 (by decide) (by decide)) rfl l1.symm rfl, own_cast (keep o3 (by decide) (by decide)) rfl l2.symm rfl, own_cast (keep o4 (by decide) (by decide)) rfl l2.symm rfl, World.ownsRow_nil _ _ _ _, World.ownsRow_nil _ _ _ _, World.ownsRow_nil _ _ _ _, World.ownsRow_nil _ _ _ _, World.ownsRow_nil _ _ _ _, World.ownsRow_nil _ _ _ _, fun _ h => by cases h⟩
  rw [← HM.out] at hxZ
  have k8 : Z.cell? ⟨w.heap.size, 8, none⟩ = some (.slice Ac nc kc) := hxZ.cell 8
  have k24 : Z.cell? ⟨w.heap.size, 24, none⟩ = some (.slice As ns ks) := hxZ.cell 24
  have k25 : Z.cell? ⟨w.heap.size, 25, none⟩ = some (.slice Af nf kf) := hxZ.cell 25
  rw [HM.out] at hxZ
  have HXZ := Lib.hid hxZ
  have HT := Lib.hid hT
  clear hx4 ha4 hb4 hr14 hr24 o1 o2 o3 o4 b4 b5 hx5 ha5 hb5 hr15 hr25 mZ haZ hbZ hxZ keep hT bK BK HX3 HA3 HB3 HR13 HR23 O1 O2 BW3
  go_wp2_with fail
  have hq : pk0 p np nw = { cutP p with codes := [], subs := [], filters := [] } := by
    have e1 := HP.out.pn
    have e2 := HP.out.wn
    rw [← HM.out] at e1 e2
    simp only at e1 e2
    unfold pk0 cutP
    rw [← e1, ← e2, take_min80, take_min80]
  have hT := HT.out
  rw [hq] at hT
  exact HK.out _ _ (pk_7 HP.out ⟨hT, HXZ.out, HR1.out, HR2.out, BZ.out, GR.out, GAB.out⟩)


end Go.Proofs.YtedapgeabpadaaaDoor
