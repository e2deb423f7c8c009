/- Parts of the proof, joined: RgY, SamePr6, Same6, Args, StrU. -/
import Derived.Test.YtedapgeabpadaaaDoorJ6P18
import Derived.Test.YtedapgeabpadaaaDoorJ6P11
import Derived.Test.YtedapgeabpadaaaDoorJ6P1
import Derived.Test.YtedapgeabpadaaaDoorProg
import Derived.WalkKit
import Derived.BigQuiet
import Derived.Deep.QuietTactic
import Derived.Test.YtedapgeabpadaaaDoorJ6P10
import Derived.Test.YtedapgeabpadaaaDoorJ6P12
import Derived.IntWalk
import Derived.Test.YtedapgeabpadaaaDoorRows
import Derived.ProofKit
import Derived.OpenShut
import Derived.ShutString
import Derived.Deep.Strs
import Derived.SizedLaws
namespace Go.Proofs.YtedapgeabpadaaaDoor
set_option linter.unusedVariables false
open Go.RowKit Pl Go.Shelf Go.PlainAid

def Eb {α : Type} (r : RR α) : Prop := ∀ e, r = .error e → 0 ≤ e ∧ e ≤ 255
theorem Eb.ok {α : Type} (v : α) (a : Int) : Eb (.ok (v, a) : RR α) := fun e h => by cases h
theorem Eb.err {α : Type} {c : Int} (h : 0 ≤ c ∧ c ≤ 255) : Eb (.error c : RR α) := fun e h2 => by cases h2; exact h
theorem Eb.ite {α : Type} {c : Prop} [Decidable c] {r s : RR α} (h : Eb r) (k : Eb s) : Eb (if c then r else s) := by split; exact h; exact k
theorem Eb.bind {α β : Type} {r : RR α} {k : α → Int → RR β} (h : Eb r) (hk : ∀ v a, Eb (k v a)) : Eb (bindR r k) := by
  unfold bindR
  cases r with
  | error e => exact Eb.err (h e rfl)
  | ok v => obtain ⟨v, b⟩ := v; exact hk v b
theorem eb_num (s : ByteArray) (k a : Int) : Eb (rNum s k a) := Eb.ite (Eb.ok _ _) (Eb.err (by decide))
theorem eb_text (s : ByteArray) (a : Int) : Eb (rText s a) := Eb.ite (Eb.ok _ _) (Eb.err (by decide))
theorem eb_data (s : ByteArray) (a : Int) : Eb (rData s a) := Eb.ite (Eb.ok _ _) (Eb.err (by decide))
theorem eb_props (k : Int) (s : ByteArray) (a : Int) : Eb (rProps k s a) := Eb.ite (Eb.err (by decide)) (Eb.ite (Eb.err (by have := (getP_codes s a).1; omega)) (Eb.ite (Eb.err (by decide)) (Eb.ok _ _)))
theorem eb_id (s : ByteArray) (a : Int) : Eb (rId s a) := Eb.bind (eb_num _ _ _) fun _ _ => Eb.ite (Eb.err (by decide)) (Eb.ok _ _)
theorem eb_sub (s : ByteArray) (a : Int) : Eb (rSub s a) := Eb.bind (eb_text _ _) fun _ _ => Eb.bind (eb_num _ _ _) fun _ _ => Eb.ite (Eb.err (by decide)) (Eb.ite (Eb.err (by decide)) (Eb.ok _ _))
theorem eb_pass (s : ByteArray) (p : Pk) (a : Int) : Eb (rPass s p a) := Eb.ite (Eb.bind (eb_data _ _) fun _ _ => Eb.ok _ _) (Eb.ok _ _)
theorem eb_user (s : ByteArray) (p : Pk) (a : Int) : Eb (rUser s p a) := Eb.ite (Eb.bind (eb_text _ _) fun _ _ => eb_pass _ _ _) (eb_pass _ _ _)
theorem eb_will (s : ByteArray) (p : Pk) (a : Int) : Eb (rWill s p a) := Eb.ite (Eb.bind (eb_props _ _ _) fun _ _ => Eb.bind (eb_text _ _) fun _ _ => Eb.bind (eb_data _ _) fun _ _ => eb_user _ _ _) (eb_user _ _ _)
theorem eb_keep (s : ByteArray) (p : Pk) (a : Int) : Eb (rKeep s p a) := Eb.bind (eb_num _ _ _) fun _ _ => Eb.bind (eb_props _ _ _) fun _ _ => Eb.bind (eb_text _ _) fun _ _ => eb_will _ _ _
theorem eb_conn (s : ByteArray) (p : Pk) (a : Int) : Eb (rConn s p a) := Eb.bind (eb_text _ _) fun _ _ => Eb.ite (Eb.err (by decide)) (Eb.bind (eb_num _ _ _) fun _ _ => Eb.ite (Eb.err (by decide)) (Eb.bind (eb_num _ _ _) fun _ _ => Eb.ite (Eb.err (by decide)) (eb_keep _ _ _)))
theorem eb_connack (s : ByteArray) (p : Pk) (a : Int) : Eb (rConnack s p a) := Eb.bind (eb_num _ _ _) fun _ _ => Eb.ite (Eb.err (by decide)) (Eb.bind (eb_num _ _ _) fun _ _ => Eb.bind (eb_props _ _ _) fun _ _ => Eb.ok _ _)
theorem eb_payl (s : ByteArray) (p : Pk) (a : Int) : Eb (rPayl s p a) := Eb.bind (eb_props _ _ _) fun _ _ => Eb.ok _ _
theorem eb_pub (s : ByteArray) (p : Pk) (a : Int) : Eb (rPub s p a) := Eb.bind (eb_text _ _) fun _ _ => Eb.ite (Eb.bind (eb_id _ _) fun _ _ => eb_payl _ _ _) (eb_payl _ _ _)
theorem eb_endP (s : ByteArray) (p : Pk) (a : Int) : Eb (rEndP s p a) := Eb.ite (Eb.bind (eb_props _ _ _) fun _ _ => Eb.ok _ _) (Eb.ok _ _)
theorem eb_end (s : ByteArray) (p : Pk) (a : Int) : Eb (rEnd s p a) := Eb.ite (Eb.bind (eb_num _ _ _) fun _ _ => eb_endP _ _ _) (eb_endP _ _ _)
theorem eb_ack (s : ByteArray) (p : Pk) (a : Int) : Eb (rAck s p a) := Eb.bind (eb_id _ _) fun _ _ => eb_end _ _ _
theorem eb_item (s : ByteArray) (p : Pk) (a : Int) : Eb (rItem s p a) := Eb.ite (Eb.bind (eb_sub _ _) fun _ _ => Eb.ok _ _) (Eb.ite (Eb.bind (eb_text _ _) fun _ _ => Eb.ok _ _) (Eb.bind (eb_num _ _ _) fun _ _ => Eb.ok _ _))
theorem eb_items (s : ByteArray) : ∀ (f : Nat) (p : Pk) (a : Int), Eb (rItems s f p a)
  | 0, _, _ => Eb.ite (Eb.err (by decide)) (Eb.ok _ _)
  | f + 1, _, _ => Eb.ite (Eb.bind (eb_item _ _ _) fun _ _ => eb_items s f _ _) (Eb.ok _ _)
theorem eb_lists (s : ByteArray) (p : Pk) (a : Int) : Eb (rLists s p a) := Eb.bind (eb_id _ _) fun _ _ => Eb.bind (eb_props _ _ _) fun _ _ => Eb.ite (eb_items _ _ _ _) (Eb.err (by decide))
theorem eb_kind (s : ByteArray) (p : Pk) (a : Int) : Eb (rKind s p a) := Eb.ite (eb_conn _ _ _) (Eb.ite (eb_connack _ _ _) (Eb.ite (eb_pub _ _ _) (Eb.ite (eb_ack _ _ _) (Eb.ite (eb_end _ _ _) (Eb.ite (eb_lists _ _ _) (Eb.ok _ _))))))
theorem eb_body (s : ByteArray) (p : Pk) (a : Int) : Eb (rBody s p a) := Eb.bind (eb_kind _ _ _) fun _ _ => Eb.ite (Eb.err (by decide)) (Eb.ok _ _)
theorem pkget_code (s : ByteArray) : 0 ≤ (pkGet s).2 ∧ (pkGet s).2 ≤ 255 := by
  by_cases h0 : s.size = 0
  · unfold pkGet; rw [if_pos h0]; exact ⟨by show (0 : Int) ≤ 242; decide, by show (242 : Int) ≤ 255; decide⟩
  · obtain ⟨o, ho⟩ : ∃ o, hdO (bt s 0) = o := ⟨_, rfl⟩
    cases o with
    | none => rw [gtail_bad h0 ho]; exact ⟨by show (0 : Int) ≤ 129; decide, by show (129 : Int) ≤ 255; decide⟩
    | some p =>
      rw [gtail_of h0 ho]
      have hv := getV_code s 1
      unfold gTail
      split
      · exact ⟨hv.1, Int.le_trans hv.2 (by decide)⟩
      · split
        · exact ⟨by show (0 : Int) ≤ 149; decide, by show (149 : Int) ≤ 255; decide⟩
        · split
          · exact ⟨by show (0 : Int) ≤ 242; decide, by show (242 : Int) ≤ 255; decide⟩
          · split
            · exact ⟨by show (0 : Int) ≤ 129; decide, by show (129 : Int) ≤ 255; decide⟩
            · obtain ⟨r, hr⟩ : ∃ r, rBody (s.extract (getV s 1).2.1.toNat s.size) p 0 = r := ⟨_, rfl⟩
              have hb := eb_body (s.extract (getV s 1).2.1.toNat s.size) p 0
              rw [hr] at hb ⊢
              cases r with
              | error e => exact hb e rfl
              | ok v => obtain ⟨q, b⟩ := v; exact ⟨by show (0 : Int) ≤ 0; decide, by show (0 : Int) ≤ 255; decide⟩
theorem gets_code : ∀ l : List ByteArray, 0 ≤ (getsP l).2 ∧ (getsP l).2 ≤ 255 := by
  intro l
  induction l with
  | nil => exact ⟨by show (0 : Int) ≤ 0; decide, by show (0 : Int) ≤ 255; decide⟩
  | cons b r ih =>
    unfold getsP
    split
    · exact pkget_code b
    · exact ih
theorem feed_code (most : Int) (x : ByteArray) : 0 ≤ feedC most x ∧ feedC most x ≤ 255 := by
  unfold feedC
  split
  · exact gets_code _
  · have := split_codes most x.size x
    unfold sp
    omega
def nL (most : Int) (left s : ByteArray) (c : Int) : List Pk := if c = 0 then feedL most (left ++ s) else []
def nC (most : Int) (left s : ByteArray) (c : Int) : Int := if c = 0 then feedC most (left ++ s) else c
def nR (most : Int) (left s : ByteArray) (c : Int) : ByteArray := if c = 0 then feedR most (left ++ s) else left
theorem n_bounds (most : Int) (left s : ByteArray) (c : Int) (h : 0 ≤ c ∧ c ≤ 255) : (0 ≤ nC most left s c ∧ nC most left s c ≤ 255) ∧ (nL most left s c).length + (nR most left s c).size ≤ left.size + s.size ∧ ∀ p ∈ nL most left s c, p.fits := by
  unfold nC nL nR
  by_cases hc : c = 0
  · rw [if_pos hc, if_pos hc, if_pos hc]
    have := feed_room most (left ++ s)
    rw [ByteArray.size_append] at this
    exact ⟨feed_code _ _, this, feed_fits _ _⟩
  · rw [if_neg hc, if_neg hc, if_neg hc]
    exact ⟨h, by show 0 + left.size ≤ _; omega, fun p hp => by cases hp⟩
def FbPost (w : World) (R : Nat) (most : Int) (left s : ByteArray) (c : Int) (e : Ending) (w' : World) : Prop :=
  ∃ v, e = .returned (.tuple #[v, .int .u8 (nC most left s c)]) ∧ PksAt w.heap.size w' v (nL most left s c) ∧ Blk w' R (srA most (nR most left s c) (nC most left s c)) 72 ∧ Mod (· = R) w w'
def DbPost (w : World) (R : Nat) (most : Int) (left s : ByteArray) (c : Int) (e : Ending) (w' : World) : Prop :=
  ∃ v, e = .returned (.tuple #[v, .int .i64 (nC most left s c)]) ∧ DksAt w.heap.size w' v (nL most left s c) ∧ Blk w' R (srD most (nR most left s c) (nC most left s c)) 27 ∧ Mod (· = R) w w'
theorem sfeed_both (R : Nat) (most : Int) (left s : ByteArray) (c : Int) (w : World) (hb : Blk w R (srA most left c) 72) (h0 : -9223372036854775808 ≤ most) (h1 : most ≤ 9223372036854775807) (hs : left.size + s.size ≤ 1048576) (hT : Tabs w) :
    Calls Tryd.prog 9 #[.pointer (some ⟨R, 0, none⟩), .string s] w (FbPost w R most left s c) := by
  by_cases hc : c = 0
  · subst hc
    refine (sfeed_any R most left s w hb h0 h1 hs hT).mono ?_
    rintro e w' ⟨v, a1, a2, a3, a4⟩
    exact ⟨v, a1, a2, a3, a4⟩
  · refine (sfeed_stop R most left s c w hc hb).mono ?_
    rintro e w' ⟨rfl, b⟩
    have e1 : nC most left s c = c := if_neg hc
    have e2 : nL most left s c = [] := if_neg hc
    have e3 : nR most left s c = left := if_neg hc
    refine ⟨_, by rw [e1], by rw [e2]; exact PksAt.nil _ _, by rw [e1, e3]; exact hb.of_below b, Mod.of_below b⟩
theorem dfeed_stop (R : Nat) (most : Int) (left s : ByteArray) (c : Int) (w : World) (hc : c ≠ 0) (hb : Blk w R (srD most left c) 27) : Calls Tryd.prog 10 #[.pointer (some ⟨R, 0, none⟩), .string s] w fun e w' => e = .returned (.tuple #[.slice none 0 0, .int .i64 c]) ∧ Below w.heap.size w w' := by
  have c2 : w.cell? ⟨R, 2, none⟩ = some (.int .i64 c) := hb.cell 2
  have e0 : (c == 0) = false := beq_eq_false_iff_ne.2 hc
  have e1 : (c != 0) = true := by rw [bne, e0]; rfl
  clear hb hc
  go_enter Tryd.func10, Tryd.ntmps10
  go_wp2
  go_quiet (fail)
  go_wp2
  go_ret2
  exact ⟨rfl, ⟨rfl, rfl, rfl, Nat.le_refl _, fun _ _ => rfl⟩⟩
theorem dfeed_both (R : Nat) (most : Int) (left s : ByteArray) (c : Int) (w : World) (hb : Blk w R (srD most left c) 27) (h0 : -9223372036854775808 ≤ most) (h1 : most ≤ 9223372036854775807) (hs : left.size + s.size ≤ 1048576) :
    Calls Tryd.prog 10 #[.pointer (some ⟨R, 0, none⟩), .string s] w (DbPost w R most left s c) := by
  by_cases hc : c = 0
  · subst hc
    refine (dfeed_any R most left s w hb h0 h1 hs).mono ?_
    rintro e w' ⟨v, a1, a2, a3, a4⟩
    exact ⟨v, a1, a2, a3, a4⟩
  · refine (dfeed_stop R most left s c w hc hb).mono ?_
    rintro e w' ⟨rfl, b⟩
    have e1 : nC most left s c = c := if_neg hc
    have e2 : nL most left s c = [] := if_neg hc
    have e3 : nR most left s c = left := if_neg hc
    refine ⟨_, by rw [e1], by rw [e2]; exact DksAt.nil _ _, by rw [e1, e3]; exact hb.of_below b, Mod.of_below b⟩
end Go.Proofs.YtedapgeabpadaaaDoor

namespace Go.Proofs.YtedapgeabpadaaaDoor
set_option linter.unusedVariables false
open Go.RowKit

set_option maxHeartbeats 2000000 in
theorem sameprops6_any (A1 A2 : Option Addr) (n c1 c2 : Nat) (L : List Pp) (w : World) (hn : L.length = n) (hm : n ≤ 1048576) (h1 : PRow w A1 L) (h2 : PRow w A2 L) :
    Calls Tryd.prog 20 #[.slice A1 n c1, .slice A2 n c2] w fun e w' => e = .returned (.bool true) ∧ Below w.heap.size w w' := by
  have H1 := Lib.hid h1
  have H2 := Lib.hid h2
  have HN := Lib.hid hn
  clear h1 h2 hn
  go_enter Tryd.func20, Tryd.ntmps20
  go_wp2
  go_loopw [13] (fun i wr => ∃ k : Nat, i = .int .i64 k ∧ k ≤ n ∧ Hid (Below w.heap.size w wr)) (fun i _ => n - (intOf i).toNat)
  case atStart => exact ⟨0, rfl, by omega, Lib.hid (Below.refl _ _)⟩
  case round =>
    obtain ⟨k, rfl, hk, hb⟩ := hrel
    by_cases hlt : k < n
    · obtain ⟨b1, o1, rfl, hl1, hc1⟩ := (H1.out.below hb.out) (by rw [HN.out]; omega)
      obtain ⟨b2, o2, rfl, hl2, hc2⟩ := (H2.out.below hb.out) (by rw [HN.out]; omega)
      obtain ⟨p, hp⟩ : ∃ p, L[k]? = some p := ⟨_, List.getElem?_eq_getElem (by rw [HN.out]; omega)⟩
      obtain ⟨x0, x1, x2, x3⟩ := hc1 k p hp
      obtain ⟨y0, y1, y2, y3⟩ := hc2 k p hp
      have f1 : (p.s.toList == p.s.toList) = true := by simp
      have f2 : (p.t.toList == p.t.toList) = true := by simp
      have hkI : (k : Int) < (n : Int) := by omega
      clear hc1 hc2 hp
      go_wp2
      go_quiet (fail)
      go_wp2
      go_roundw
      case rel => exact ⟨k + 1, by go_num, by omega, Lib.hid ⟨hb.out.os, hb.out.tape, hb.out.output, hb.out.size, hb.out.block⟩⟩
      case measure => simp [intOf]; omega
    · go_wp2
      go_ret
      exact ⟨rfl, hb.out⟩
end Go.Proofs.YtedapgeabpadaaaDoor

set_option linter.unusedVariables false
set_option linter.unusedSimpArgs false
namespace Go.Proofs.YtedapgeabpadaaaDoor
open Go.RowKit Pl Go.PlainAid

theorem PkD.pkin {B : Nat} {w : World} {p : Pk} {m : Hs} (h : PkD B w p m) (f : p.fits) : PkIn .i64 w p m := by
  have hp := sl_hd h.ps
  have hw := sl_hd h.wps
  have hc := sl_hd h.cs
  have hs := sl_hd h.ss
  have hf := sl_hd h.fs
  exact ⟨f, hp.1, hp.2.1, sl_prow h.ps, hw.1, hw.2.1, sl_prow h.wps, hc.1, hc.2.1, sl_vrow h.cs, hs.1, hs.2.1, sl_srow h.ss, hf.1, hf.2.1, sl_vrow h.fs, hs.2.2, hf.2.2⟩
theorem blkSame (w : World) (c1 c2 : Array Value) : Blk ((w.alloc (.cells c1 45)).alloc (.cells c2 52)) w.heap.size c1 45 ∧ Blk ((w.alloc (.cells c1 45)).alloc (.cells c2 52)) (w.heap.size + 1) c2 52 ∧ Below w.heap.size w ((w.alloc (.cells c1 45)).alloc (.cells c2 52)) := by
  have b0 := (Below.refl w.heap.size w).alloc (Nat.le_refl _) (.cells c1 45)
  exact ⟨(blkAt w c1 45 rfl).alloc _, blkAt (w.alloc (.cells c1 45)) c2 52 (b := w.heap.size + 1) (by simp), b0.alloc b0.size _⟩
set_option maxRecDepth 100000 in
set_option maxHeartbeats 16000000 in
theorem samepk_any (p : Pk) (m1 m2 : Hs) (w : World) (h1 : PkIn .u8 w p m1) (h2 : PkIn .i64 w p m2) :
    Calls Tryd.prog 12 #[.agg (pkA .u8 p m1), .agg (pkA .i64 p m2)] w fun e w' => e = .returned (.bool true) ∧ Below w.heap.size w w' := by
  have fits := h1.fits
  have kx := blkSame w (pkA .u8 p m1) (pkA .i64 p m2)
  obtain ⟨W0, hW0⟩ : ∃ W0, w.alloc (.cells (pkA .u8 p m1) 45) = W0 := ⟨_, rfl⟩
  have hsz : W0.heap.size = w.heap.size + 1 := by rw [← hW0]; simp
  obtain ⟨W, hW⟩ : ∃ W, W0.alloc (.cells (pkA .i64 p m2) 52) = W := ⟨_, rfl⟩
  rw [hW0, hW] at kx
  obtain ⟨K1, K2, B0⟩ := kx
  have hp1 := h1.below B0
  have hp2 := h2.below B0
  have cn1 := h1.cn; have pn1 := h1.pn; have wn1 := h1.wn; have sn1 := h1.sn; have fn1 := h1.fn
  have cn2 := h2.cn; have pn2 := h2.pn; have wn2 := h2.wn; have sn2 := h2.sn; have fn2 := h2.fn
  have cc1 := h1.cc; have pc1 := h1.pc; have wc1 := h1.wc; have sc1 := h1.sc; have fc1 := h1.fc
  have cc2 := h2.cc; have pc2 := h2.pc; have wc2 := h2.wc; have sc2 := h2.sc; have fc2 := h2.fc
  have hnc := fits.codes.1; have hnp := fits.ps.1; have hnw := fits.wps.1; have hns := fits.subs.1; have hnf := fits.filters.1
  have hcd := fits.code
  have HF := Lib.hid fits
  have wkc : IntKind.i64.wrap p.code = p.code := IntWalk.i64_in _ (by omega)
  have HP1 := Lib.hid hp1
  have HP2 := Lib.hid hp2
  have HK1 := Lib.hid K1
  have HK2 := Lib.hid K2
  have HB0 := Lib.hid B0
  obtain ⟨nc, hc_⟩ : ∃ n, p.codes.length = n := ⟨_, rfl⟩
  obtain ⟨np, hp_⟩ : ∃ n, p.ps.length = n := ⟨_, rfl⟩
  obtain ⟨nw, hw_⟩ : ∃ n, p.wps.length = n := ⟨_, rfl⟩
  obtain ⟨ns, hs_⟩ : ∃ n, p.subs.length = n := ⟨_, rfl⟩
  obtain ⟨nf, hf_⟩ : ∃ n, p.filters.length = n := ⟨_, rfl⟩
  rw [hc_] at cn1 cn2 hnc
  rw [hp_] at pn1 pn2 hnp
  rw [hw_] at wn1 wn2 hnw
  rw [hs_] at sn1 sn2 hns
  rw [hf_] at fn1 fn2 hnf
  rw [← cn1] at cc1
  rw [← cn2] at cc2
  rw [← sn1] at sc1
  rw [← sn2] at sc2
  rw [← fn1] at fc1
  rw [← fn2] at fc2
  have E1 : Hid (pkA .u8 p m1 = #[.int .i64 p.kind, .bool p.dup, .bool p.ret, .int .i64 p.q, .int .i64 p.id, .string p.topic, .string p.payload, .int .u8 p.code, .slice m1.c.A nc m1.c.cap, .slice m1.p.A np m1.p.cap, .string p.client, .bool p.clean, .int .i64 p.keep, .bool p.hasWill, .string p.wt, .string p.wp, .int .i64 p.wq, .bool p.wr, .slice m1.w.A nw m1.w.cap, .bool p.hasUser, .bool p.hasPass, .string p.user, .string p.pass, .bool p.session, .slice m1.s.A ns m1.s.cap, .slice m1.f.A nf m1.f.cap]) := Lib.hid (by unfold pkA; rw [← cn1, ← pn1, ← wn1, ← sn1, ← fn1])
  have E2 : Hid (pkA .i64 p m2 = #[.int .i64 p.kind, .bool p.dup, .bool p.ret, .int .i64 p.q, .int .i64 p.id, .string p.topic, .string p.payload, .int .i64 p.code, .slice m2.c.A nc m2.c.cap, .slice m2.p.A np m2.p.cap, .string p.client, .bool p.clean, .int .i64 p.keep, .bool p.hasWill, .string p.wt, .string p.wp, .int .i64 p.wq, .bool p.wr, .slice m2.w.A nw m2.w.cap, .bool p.hasUser, .bool p.hasPass, .string p.user, .string p.pass, .bool p.session, .slice m2.s.A ns m2.s.cap, .slice m2.f.A nf m2.f.cap]) := Lib.hid (by unfold pkA; rw [← cn2, ← pn2, ← wn2, ← sn2, ← fn2])
  have HC := Lib.hid hc_; have HPS := Lib.hid hp_; have HWS := Lib.hid hw_; have HS := Lib.hid hs_; have HFS := Lib.hid hf_
  rw [E1.out] at K1
  rw [E2.out] at K2
  have a0 : W.cell? ⟨w.heap.size, 0, none⟩ = some (.int .i64 p.kind) := K1.cell 0
  have a1 : W.cell? ⟨w.heap.size, 1, none⟩ = some (.bool p.dup) := K1.cell 1
  have a2 : W.cell? ⟨w.heap.size, 2, none⟩ = some (.bool p.ret) := K1.cell 2
  have a3 : W.cell? ⟨w.heap.size, 3, none⟩ = some (.int .i64 p.q) := K1.cell 3
  have a4 : W.cell? ⟨w.heap.size, 4, none⟩ = some (.int .i64 p.id) := K1.cell 4
  have a5 : W.cell? ⟨w.heap.size, 5, none⟩ = some (.string p.topic) := K1.cell 5
  have a6 : W.cell? ⟨w.heap.size, 6, none⟩ = some (.string p.payload) := K1.cell 6
  have a7 : W.cell? ⟨w.heap.size, 7, none⟩ = some (.int .u8 p.code) := K1.cell 7
  have a8 : W.cell? ⟨w.heap.size, 8, none⟩ = some (.slice m1.c.A nc m1.c.cap) := K1.cell 8
  have a9 : W.cell? ⟨w.heap.size, 9, none⟩ = some (.slice m1.p.A np m1.p.cap) := K1.cell 9
  have a10 : W.cell? ⟨w.heap.size, 10, none⟩ = some (.string p.client) := K1.cell 10
  have a11 : W.cell? ⟨w.heap.size, 11, none⟩ = some (.bool p.clean) := K1.cell 11
  have a12 : W.cell? ⟨w.heap.size, 12, none⟩ = some (.int .i64 p.keep) := K1.cell 12
  have a13 : W.cell? ⟨w.heap.size, 13, none⟩ = some (.bool p.hasWill) := K1.cell 13
  have a14 : W.cell? ⟨w.heap.size, 14, none⟩ = some (.string p.wt) := K1.cell 14
  have a15 : W.cell? ⟨w.heap.size, 15, none⟩ = some (.string p.wp) := K1.cell 15
  have a16 : W.cell? ⟨w.heap.size, 16, none⟩ = some (.int .i64 p.wq) := K1.cell 16
  have a17 : W.cell? ⟨w.heap.size, 17, none⟩ = some (.bool p.wr) := K1.cell 17
  have a18 : W.cell? ⟨w.heap.size, 18, none⟩ = some (.slice m1.w.A nw m1.w.cap) := K1.cell 18
  have a19 : W.cell? ⟨w.heap.size, 19, none⟩ = some (.bool p.hasUser) := K1.cell 19
  have a20 : W.cell? ⟨w.heap.size, 20, none⟩ = some (.bool p.hasPass) := K1.cell 20
  have a21 : W.cell? ⟨w.heap.size, 21, none⟩ = some (.string p.user) := K1.cell 21
  have a22 : W.cell? ⟨w.heap.size, 22, none⟩ = some (.string p.pass) := K1.cell 22
  have a23 : W.cell? ⟨w.heap.size, 23, none⟩ = some (.bool p.session) := K1.cell 23
  have a24 : W.cell? ⟨w.heap.size, 24, none⟩ = some (.slice m1.s.A ns m1.s.cap) := K1.cell 24
  have a25 : W.cell? ⟨w.heap.size, 25, none⟩ = some (.slice m1.f.A nf m1.f.cap) := K1.cell 25
  have b0 : W.cell? ⟨w.heap.size + 1, 0, none⟩ = some (.int .i64 p.kind) := K2.cell 0
  have b1 : W.cell? ⟨w.heap.size + 1, 1, none⟩ = some (.bool p.dup) := K2.cell 1
  have b2 : W.cell? ⟨w.heap.size + 1, 2, none⟩ = some (.bool p.ret) := K2.cell 2
  have b3 : W.cell? ⟨w.heap.size + 1, 3, none⟩ = some (.int .i64 p.q) := K2.cell 3
  have b4 : W.cell? ⟨w.heap.size + 1, 4, none⟩ = some (.int .i64 p.id) := K2.cell 4
  have b5 : W.cell? ⟨w.heap.size + 1, 5, none⟩ = some (.string p.topic) := K2.cell 5
  have b6 : W.cell? ⟨w.heap.size + 1, 6, none⟩ = some (.string p.payload) := K2.cell 6
  have b7 : W.cell? ⟨w.heap.size + 1, 7, none⟩ = some (.int .i64 p.code) := K2.cell 7
  have b8 : W.cell? ⟨w.heap.size + 1, 8, none⟩ = some (.slice m2.c.A nc m2.c.cap) := K2.cell 8
  have b9 : W.cell? ⟨w.heap.size + 1, 9, none⟩ = some (.slice m2.p.A np m2.p.cap) := K2.cell 9
  have b10 : W.cell? ⟨w.heap.size + 1, 10, none⟩ = some (.string p.client) := K2.cell 10
  have b11 : W.cell? ⟨w.heap.size + 1, 11, none⟩ = some (.bool p.clean) := K2.cell 11
  have b12 : W.cell? ⟨w.heap.size + 1, 12, none⟩ = some (.int .i64 p.keep) := K2.cell 12
  have b13 : W.cell? ⟨w.heap.size + 1, 13, none⟩ = some (.bool p.hasWill) := K2.cell 13
  have b14 : W.cell? ⟨w.heap.size + 1, 14, none⟩ = some (.string p.wt) := K2.cell 14
  have b15 : W.cell? ⟨w.heap.size + 1, 15, none⟩ = some (.string p.wp) := K2.cell 15
  have b16 : W.cell? ⟨w.heap.size + 1, 16, none⟩ = some (.int .i64 p.wq) := K2.cell 16
  have b17 : W.cell? ⟨w.heap.size + 1, 17, none⟩ = some (.bool p.wr) := K2.cell 17
  have b18 : W.cell? ⟨w.heap.size + 1, 18, none⟩ = some (.slice m2.w.A nw m2.w.cap) := K2.cell 18
  have b19 : W.cell? ⟨w.heap.size + 1, 19, none⟩ = some (.bool p.hasUser) := K2.cell 19
  have b20 : W.cell? ⟨w.heap.size + 1, 20, none⟩ = some (.bool p.hasPass) := K2.cell 20
  have b21 : W.cell? ⟨w.heap.size + 1, 21, none⟩ = some (.string p.user) := K2.cell 21
  have b22 : W.cell? ⟨w.heap.size + 1, 22, none⟩ = some (.string p.pass) := K2.cell 22
  have b23 : W.cell? ⟨w.heap.size + 1, 23, none⟩ = some (.bool p.session) := K2.cell 23
  have b24 : W.cell? ⟨w.heap.size + 1, 24, none⟩ = some (.slice m2.s.A ns m2.s.cap) := K2.cell 24
  have b25 : W.cell? ⟨w.heap.size + 1, 25, none⟩ = some (.slice m2.f.A nf m2.f.cap) := K2.cell 25
  have f_topic : (p.topic.toList == p.topic.toList) = true := by simp
  have f_payload : (p.payload.toList == p.payload.toList) = true := by simp
  have f_client : (p.client.toList == p.client.toList) = true := by simp
  have f_user : (p.user.toList == p.user.toList) = true := by simp
  have f_pass : (p.pass.toList == p.pass.toList) = true := by simp
  have f_wt : (p.wt.toList == p.wt.toList) = true := by simp
  have f_wp : (p.wp.toList == p.wp.toList) = true := by simp
  have C1 := Lib.hid (sameprops6_any m1.w.A m2.w.A nw m1.w.cap m2.w.cap p.wps W HWS.out hnw HP1.out.wr HP2.out.wr)
  have C2 : Hid (∀ X, Below W.heap.size W X → Calls Tryd.prog 20 #[.slice m1.p.A np m1.p.cap, .slice m2.p.A np m2.p.cap] X fun e w' => e = .returned (.bool true) ∧ Below X.heap.size X w') := Lib.hid (fun X hX => sameprops6_any m1.p.A m2.p.A np m1.p.cap m2.p.cap p.ps X HPS.out hnp (HP1.out.below hX).pr (HP2.out.below hX).pr)
  clear K1 K2 B0 hp1 hp2 fits h1 h2 cn1 pn1 wn1 sn1 fn1 cn2 pn2 wn2 sn2 fn2 hc_ hp_ hw_ hs_ hf_
  go_enter Tryd.func12, Tryd.ntmps12
  go_wp2_with (first | (go_at_call 20; (with_reducible refine C1.out.mono ?_); rintro e Y1 ⟨rfl, bY1⟩; have HY1 := Lib.hid bY1; have p9 := (HK1.out.of_below bY1).cell 9; have q9 := (HK2.out.of_below bY1).cell 9; rw [E1.out] at p9; rw [E2.out] at q9; simp only [List.getElem?_toArray, List.getElem?_cons_zero, List.getElem?_cons_succ] at p9 q9; clear bY1) | (fail))
  refine (C2.out Y1 HY1.out).mono ?_
  rintro e Y2 ⟨rfl, bY2⟩
  have hb2 := HY1.out.trans (bY2.mono HY1.out.size)
  have HB2 := Lib.hid hb2
  have HQ1 := Lib.hid (HP1.out.below hb2)
  have HQ2 := Lib.hid (HP2.out.below hb2)
  have k1 := HK1.out.of_below hb2
  have k2 := HK2.out.of_below hb2
  rw [E1.out] at k1
  rw [E2.out] at k2
  have HL1 := Lib.hid k1
  have HL2 := Lib.hid k2
  have HBW := Lib.hid (HB0.out.trans (hb2.mono HB0.out.size))
  have HLT := Lib.hid (And.intro k1.lt k2.lt)
  have x8 : Y2.cell? ⟨w.heap.size, 8, none⟩ = some (.slice m1.c.A nc m1.c.cap) := k1.cell 8
  have x24 : Y2.cell? ⟨w.heap.size, 24, none⟩ = some (.slice m1.s.A ns m1.s.cap) := k1.cell 24
  have x25 : Y2.cell? ⟨w.heap.size, 25, none⟩ = some (.slice m1.f.A nf m1.f.cap) := k1.cell 25
  have y8 : Y2.cell? ⟨w.heap.size + 1, 8, none⟩ = some (.slice m2.c.A nc m2.c.cap) := k2.cell 8
  have y24 : Y2.cell? ⟨w.heap.size + 1, 24, none⟩ = some (.slice m2.s.A ns m2.s.cap) := k2.cell 24
  have y25 : Y2.cell? ⟨w.heap.size + 1, 25, none⟩ = some (.slice m2.f.A nf m2.f.cap) := k2.cell 25
  clear k1 k2 hb2 bY2 p9 q9
  clear a0 b0 a1 b1 a2 b2 a3 b3 a4 b4 a5 b5 a6 b6 a7 b7 a8 b8 a9 b9 a10 b10 a11 b11 a12 b12 a13 b13 a14 b14 a15 b15 a16 b16 a17 b17 a18 b18 a19 b19 a20 b20 a21 b21 a22 b22 a23 b23 a24 b24 a25 b25
  go_wp2_with fail
  go_loopw [204] (fun iv wr => ∃ j : Nat, iv = .int .i64 j ∧ j ≤ nc ∧ Hid (Below Y2.heap.size Y2 wr)) (fun iv _ => ((nc : Int) - intOf iv).toNat)
  case atStart => exact ⟨0, rfl, Nat.zero_le _, Lib.hid (Below.refl _ _)⟩
  case round =>
    obtain ⟨j, rfl, hj, hb⟩ := hrel
    by_cases hlt : j < nc
    · have hjI : (j : Int) < (nc : Int) := by omega
      have hjc1 : (nc : Int) ≤ (m1.c.cap : Int) := by omega
      have hjc2 : (nc : Int) ≤ (m2.c.cap : Int) := by omega
      obtain ⟨x, hx⟩ : ∃ x, p.codes[j]? = some x := ⟨_, List.getElem?_eq_getElem (by rw [HC.out]; exact hlt)⟩
      obtain ⟨g1, o1, ea1, hg1, hcl1⟩ := (HQ1.out.below hb.out).cr (by (try simp only [List.length_map]); rw [HC.out]; omega)
      obtain ⟨g2, o2, ea2, hg2, hcl2⟩ := (HQ2.out.below hb.out).cr (by (try simp only [List.length_map]); rw [HC.out]; omega)
      have u : wr.cell? ⟨w.heap.size, 8, none⟩ = some (.slice (some ⟨g1, o1, none⟩) nc m1.c.cap) := by rw [← ea1]; exact (HL1.out.of_below hb.out).cell 8
      have v : wr.cell? ⟨w.heap.size + 1, 8, none⟩ = some (.slice (some ⟨g2, o2, none⟩) nc m2.c.cap) := by rw [← ea2]; exact (HL2.out.of_below hb.out).cell 8
      have v1 : wr.cell? ⟨g1, o1 + j, none⟩ = some (.int .u8 x) := hcl1 j _ (by rw [List.getElem?_map, hx]; rfl)
      have v2 : wr.cell? ⟨g2, o2 + j, none⟩ = some (.int .i64 x) := hcl2 j _ (by rw [List.getElem?_map, hx]; rfl)
      have hx2 := HF.out.codes.2 x (List.mem_of_getElem? hx)
      have wk : IntKind.i64.wrap x = x := IntWalk.i64_in _ (by omega)
      have xe : (x == x) = true := by simp
      have xn : (x != x) = false := by simp
      clear hx2
      clear hcl1 hcl2 hx ea1 ea2
      go_wp2
      go_quiet (fail)
      go_wp2
      go_roundw
      case rel => exact ⟨j + 1, by go_num, by omega, Lib.hid ⟨hb.out.os, hb.out.tape, hb.out.output, hb.out.size, hb.out.block⟩⟩
      case measure => simp [intOf]; omega
    · obtain rfl : j = nc := by omega
      have hnn : ¬ ((j : Int) < (j : Int)) := by omega
      clear hlt
      have x24 : wr.cell? ⟨w.heap.size, 24, none⟩ = some (.slice m1.s.A ns m1.s.cap) := (HL1.out.of_below hb.out).cell 24
      go_wp2_with fail
      go_loopw [223] (fun iv wr => ∃ j : Nat, iv = .int .i64 j ∧ j ≤ ns ∧ Hid (Below Y2.heap.size Y2 wr)) (fun iv _ => ((ns : Int) - intOf iv).toNat)
      case atStart => exact ⟨0, rfl, Nat.zero_le _, hb⟩
      case round =>
        obtain ⟨j, rfl, hj, hb⟩ := hrel
        by_cases hlt : j < ns
        · have hjI : (j : Int) < (ns : Int) := by omega
          have hjc1 : (ns : Int) ≤ (m1.s.cap : Int) := by omega
          have hjc2 : (ns : Int) ≤ (m2.s.cap : Int) := by omega
          obtain ⟨x, hx⟩ : ∃ x, p.subs[j]? = some x := ⟨_, List.getElem?_eq_getElem (by rw [HS.out]; exact hlt)⟩
          obtain ⟨g1, o1, ea1, hg1, hcl1⟩ := (HQ1.out.below hb.out).sr (by (try simp only [List.length_map]); rw [HS.out]; omega)
          obtain ⟨g2, o2, ea2, hg2, hcl2⟩ := (HQ2.out.below hb.out).sr (by (try simp only [List.length_map]); rw [HS.out]; omega)
          have u : wr.cell? ⟨w.heap.size, 24, none⟩ = some (.slice (some ⟨g1, o1, none⟩) ns m1.s.cap) := by rw [← ea1]; exact (HL1.out.of_below hb.out).cell 24
          have v : wr.cell? ⟨w.heap.size + 1, 24, none⟩ = some (.slice (some ⟨g2, o2, none⟩) ns m2.s.cap) := by rw [← ea2]; exact (HL2.out.of_below hb.out).cell 24
          obtain ⟨c0, c1, c2, c3, c4⟩ := hcl1 j x hx
          obtain ⟨d0, d1, d2, d3, d4⟩ := hcl2 j x hx
          have f1 : (x.f.toList == x.f.toList) = true := by simp
          clear hcl1 hcl2 hx ea1 ea2
          go_wp2
          go_quiet (fail)
          go_wp2
          go_roundw
          case rel => exact ⟨j + 1, by go_num, by omega, Lib.hid ⟨hb.out.os, hb.out.tape, hb.out.output, hb.out.size, hb.out.block⟩⟩
          case measure => simp [intOf]; omega
        · obtain rfl : j = ns := by omega
          have hnn : ¬ ((j : Int) < (j : Int)) := by omega
          clear hlt
          have x25 : wr.cell? ⟨w.heap.size, 25, none⟩ = some (.slice m1.f.A nf m1.f.cap) := (HL1.out.of_below hb.out).cell 25
          go_wp2_with fail
          go_loopw [241] (fun iv wr => ∃ j : Nat, iv = .int .i64 j ∧ j ≤ nf ∧ Hid (Below Y2.heap.size Y2 wr)) (fun iv _ => ((nf : Int) - intOf iv).toNat)
          case atStart => exact ⟨0, rfl, Nat.zero_le _, hb⟩
          case round =>
            obtain ⟨j, rfl, hj, hb⟩ := hrel
            by_cases hlt : j < nf
            · have hjI : (j : Int) < (nf : Int) := by omega
              have hjc1 : (nf : Int) ≤ (m1.f.cap : Int) := by omega
              have hjc2 : (nf : Int) ≤ (m2.f.cap : Int) := by omega
              obtain ⟨x, hx⟩ : ∃ x, p.filters[j]? = some x := ⟨_, List.getElem?_eq_getElem (by rw [HFS.out]; exact hlt)⟩
              obtain ⟨g1, o1, ea1, hg1, hcl1⟩ := (HQ1.out.below hb.out).fr (by (try simp only [List.length_map]); rw [HFS.out]; omega)
              obtain ⟨g2, o2, ea2, hg2, hcl2⟩ := (HQ2.out.below hb.out).fr (by (try simp only [List.length_map]); rw [HFS.out]; omega)
              have u : wr.cell? ⟨w.heap.size, 25, none⟩ = some (.slice (some ⟨g1, o1, none⟩) nf m1.f.cap) := by rw [← ea1]; exact (HL1.out.of_below hb.out).cell 25
              have v : wr.cell? ⟨w.heap.size + 1, 25, none⟩ = some (.slice (some ⟨g2, o2, none⟩) nf m2.f.cap) := by rw [← ea2]; exact (HL2.out.of_below hb.out).cell 25
              have v1 : wr.cell? ⟨g1, o1 + j, none⟩ = some (.string x) := hcl1 j _ (by rw [List.getElem?_map, hx]; rfl)
              have v2 : wr.cell? ⟨g2, o2 + j, none⟩ = some (.string x) := hcl2 j _ (by rw [List.getElem?_map, hx]; rfl)
              have xe : (x.toList == x.toList) = true := by simp
              have xn : (x.toList != x.toList) = false := by simp
              clear hcl1 hcl2 hx ea1 ea2
              go_wp2
              go_quiet (fail)
              go_wp2
              go_roundw
              case rel => exact ⟨j + 1, by go_num, by omega, Lib.hid ⟨hb.out.os, hb.out.tape, hb.out.output, hb.out.size, hb.out.block⟩⟩
              case measure => simp [intOf]; omega
            · obtain rfl : j = nf := by omega
              have hnn : ¬ ((j : Int) < (j : Int)) := by omega
              clear hlt
              go_wp2
              go_ret
              exact ⟨rfl, HBW.out.trans (hb.out.mono HBW.out.size)⟩
end Go.Proofs.YtedapgeabpadaaaDoor

namespace Go.Proofs.YtedapgeabpadaaaDoor
open Go.ChangeShapes Go.WideShapes Go.RowKit Go.Deep
set_option linter.unusedVariables false

/-- A slice of strings reads as a list. -/
def Strs (w : World) (v : Value) (ss : List ByteArray) : Prop :=
  ∃ A cap, v = .slice A ss.length cap ∧ ss.length ≤ cap ∧ cap ≤ maxLen ∧
    (0 < ss.length → ∃ b o, A = some ⟨b, o, none⟩ ∧ b < w.heap.size ∧ ∀ i x, ss[i]? = some x → w.cell? ⟨b, o + i, none⟩ = some (.string x))
theorem Strs.below {w w' : World} {v : Value} {ss : List ByteArray} (h : Strs w v ss) (hb : Below w.heap.size w w') : Strs w' v ss := by
  obtain ⟨A, cap, rfl, h1, h2, h3⟩ := h
  refine ⟨A, cap, rfl, h1, h2, fun hp => ?_⟩
  obtain ⟨b, o, rfl, hl, hc⟩ := h3 hp
  exact ⟨b, o, rfl, Nat.lt_of_lt_of_le hl hb.size, fun i x hx => (hb.cell (p := ⟨b, o + i, none⟩) hl).trans (hc i x hx)⟩
/-- Its bulk. -/
def bulkS (ss : List ByteArray) : Nat := (ss.map fun x => x.size + 1).sum
theorem bulkS_cons (x : ByteArray) (r : List ByteArray) : bulkS (x :: r) = x.size + 1 + bulkS r := by simp [bulkS]
theorem bulk_len : ∀ ss : List ByteArray, ss.length ≤ bulkS ss
  | [] => Nat.zero_le _
  | x :: r => by
    have := bulk_len r
    rw [bulkS_cons, List.length_cons]; omega
theorem bulk_strs {H : Type} : ∀ ss : List ByteArray, Rows.uptoBulkAll (ss.map fun x => (.lit (.string x.data.toList) : DataW H)) = bulkS ss
  | [] => rfl
  | x :: r => by
    rw [List.map_cons, Rows.uptoBulkAll, bulk_strs r, bulkS_cons, Rows.uptoBulk]
    rfl
section
variable {H : Type} {enc : TypeId × Value → H} {w : World}
theorem spot_of_cell {a : Addr} {v : Value} (h : w.cell? a = some v) : a.spot = none ∧ a.block < w.heap.size := by
  refine ⟨?_, ?_⟩
  · unfold World.cell? at h
    split at h
    · split at h
      · cases h
      · rename_i hs; simpa using hs
    · cases h
  · unfold World.cell? at h
    split at h
    · rename_i hg
      exact (Array.getElem?_eq_some_iff.1 hg).1
    · cases h
set_option maxRecDepth 100000 in
theorem open_strs_arg {t e : TypeId} {v : Value} {d : DataW H} {p : List MemPlace} {r : Reach} {b0 : Nat} (ht : Tryd.prog.underlying t = some (.slice e)) (he : Tryd.prog.underlying e = some .string) (hc : Tryd.prog.cellsOf e = 1)
    (hv : Value.okWide Tryd.prog w r b0 t v) (h : DataW.Trod enc Tryd.prog w 0 (fun _ => true) true t v d p) : ∃ ss, Strs w v ss ∧ bulkS ss ≤ Rows.uptoBulk d := by
  obtain ⟨fuel, hf⟩ := h
  obtain ⟨a0, l0, c0, rfl⟩ := okWide_slice ht hv
  rcases open_strs ht he hc hf with ⟨hcs, hx⟩ | ⟨a, len, cap, m, Sx, hcs, _, hl, hm, hmm, hx, hcell⟩
  · simp [Value.cells] at hcs
    obtain ⟨rfl, rfl, rfl⟩ := hcs
    exact ⟨[], ⟨none, 0, rfl, Nat.le_refl _, Nat.zero_le _, fun h => absurd h (by simp)⟩, Nat.zero_le _⟩
  · simp [Value.cells] at hcs
    obtain ⟨rfl, rfl, rfl⟩ := hcs
    simp only [Prod.mk.injEq] at hx
    have hlen : ((List.range l0).map Sx).length = l0 := by simp
    have hlm : l0 ≤ m := by rw [hmm]; split <;> omega
    refine ⟨(List.range l0).map Sx, ⟨some a, c0, by rw [hlen], by rw [hlen]; exact hl, hm, fun hp => ?_⟩, ?_⟩
    · rw [hlen] at hp
      have h0 := (hcell 0 (by omega)).1
      have hs := spot_of_cell h0
      have e0 : a.add 0 = a := by unfold Addr.add; rw [if_pos rfl]
      rw [e0] at hs
      obtain ⟨b, o, sp⟩ := a
      obtain ⟨rfl, hb⟩ := hs
      refine ⟨b, o, rfl, hb, fun i x hx => ?_⟩
      have hi : i < l0 := by have := (List.getElem?_eq_some_iff.1 hx).1; rw [hlen] at this; exact this
      have h1 := (hcell i (by omega)).1
      rw [Go.WideShapes.add_plain] at h1
      rw [h1]
      rw [List.getElem?_map, List.getElem?_range hi] at hx
      simpa using hx
    · have e : ((List.range l0).map fun i => (.lit (.string (Sx i).data.toList) : DataW H)) = ((List.range l0).map Sx).map fun x => (.lit (.string x.data.toList) : DataW H) := by rw [List.map_map]; rfl
      rw [hx.1, Rows.uptoBulk, e, bulk_strs]
      omega
end
end Go.Proofs.YtedapgeabpadaaaDoor

set_option linter.unusedVariables false
namespace Go.Proofs.YtedapgeabpadaaaDoor
open Go.RowKit Pl Go.Shelf Go.PlainAid

theorem y_load_midU {P : Program} {ops : Array Oper} {S : World → Prop} {a : Act} {t b o : Nat} {T : TypeId} {cs : Array Value} {d : TypeDesc} (op : Oper) (hg : op.guard = none) (hop : op.op = .load T (.tmp t)) (ht : a.eval (.tmp t) = .pointer (some ⟨b, o, none⟩)) (hu : P.underlying T = some d) (hd : d.isRow = true) (hi : (P.info? T).map (·.size) = some cs.size)
    (h : ∀ w, S w → w.rangeAt b o cs.toList) : YieldsIf P ops S op (.agg cs) a := by
  refine Or.inl ⟨by simp [Region.wanted, hg], fun w hw => ?_⟩
  have e := run_loadAt_mid w b o T cs.toList d (h w hw) hu hd (by simpa using hi)
  simp only [Array.toArray_toList] at e
  unfold execOp
  simp only [hop, ht, Sem.run_bind, e, Result.andThen_ok, Sem.run_pure]
theorem y_indexU {P : Program} {ops : Array Oper} {S : World → Prop} {a : Act} {s t : Nat} {T : TypeId} {b o n c k : Nat} {i : Int} (op : Oper) (hg : op.guard = none) (hop : op.op = .indexAddr T (.tmp s) (.tmp t)) (hs : a.eval (.tmp s) = .slice (some ⟨b, o, none⟩) n c) (ht : a.eval (.tmp t) = .int .i64 i)
    (h : ∀ w, (Instr.indexAt T (.slice (some ⟨b, o, none⟩) n c) (.int .i64 i)).run P w = .ok (.pointer (some ⟨b, k, none⟩)) w) : YieldsIf P ops S op (.pointer (some ⟨b, k, none⟩)) a := by
  refine Or.inl ⟨by simp [Region.wanted, hg], fun w hw => ?_⟩
  unfold execOp
  simp only [hop, hs, ht, Sem.run_bind, h w, Result.andThen_ok, Sem.run_pure]
theorem range_belowU {w w' : World} {b o : Nat} {cs : List Value} (h : w.rangeAt b o cs) (hl : b < w.heap.size) (m : Below w.heap.size w w') : w'.rangeAt b o cs := fun j u hu => (m.cell (p := ⟨b, o + j, none⟩) hl).trans (h j u hu)
theorem sleft_eq (R : Nat) (most : Int) (left : ByteArray) (c : Int) (w : World) (hb : Blk w R (srA most left c) 72) : Calls Tryd.prog 11 #[.pointer (some ⟨R, 0, none⟩)] w fun e w' => e = .returned (.string left) ∧ w' = w := by
  have c1 : w.cell? ⟨R, 1, none⟩ = some (.string left) := hb.cell 1
  clear hb
  go_enter Tryd.func11, Tryd.ntmps11
  go_wp2
  go_ret
  exact ⟨rfl, rfl⟩
set_option maxRecDepth 100000 in
set_option maxHeartbeats 8000000 in
theorem streamFeeds_walk (v : Value) (ss : List ByteArray) (most : Int) (hn : (Lit.int .i64 most).wf = true) (w : World) (h : Strs w v ss) (hu : bulkS ss ≤ 1048576) (hT : Tabs w) :
    Calls Tryd.prog 3 #[v, .int .i64 most] w fun e w' => e = .returned (.bool true) ∧ Below w.heap.size w w' := by
  obtain ⟨A, cap, rfl, hc1, hc2, h3⟩ := h
  obtain ⟨h0, h1⟩ := i64_bd hn
  have hl := bulk_len ss
  obtain ⟨m, hm⟩ : ∃ m : Nat, min ss.length 40 = m := ⟨_, rfl⟩
  have hm' : min (ss.length : Int) 40 = (m : Int) := by omega
  have hmn : m ≤ ss.length := by omega
  have hmc : (m : Int) ≤ (cap : Int) := by omega
  have hm0 : (0 : Int) ≤ (m : Int) := by omega
  have hmax : cap ≤ 9223372036854775807 := hc2
  have H3 := Lib.hid h3
  have HT := Lib.hid hT
  have HN := Lib.hid (NoTab.new hT (Nat.le_refl w.heap.size))
  have HU := Lib.hid hu
  clear hm h3 hn hu hl
  go_enter Tryd.func3, Tryd.ntmps3
  go_wp2_with fail
  refine (snew_any most _).mono ?_
  rintro e w1 ⟨rfl, hb1, b1⟩
  obtain ⟨W2, hW2⟩ : ∃ W2, w1.alloc (.cells #[.int .i64 most, .string ⟨#[]⟩, .int .i64 0] 27) = W2 := ⟨_, rfl⟩
  have q1 := blkAt w1 #[.int .i64 most, .string ⟨#[]⟩, .int .i64 0] 27 rfl
  have b2 := (Below.refl w1.heap.size w1).alloc (Nat.le_refl _) (.cells #[.int .i64 most, .string ⟨#[]⟩, .int .i64 0] 27)
  have hlt := hb1.lt
  rw [hW2] at q1 b2
  have HNQ := Lib.hid (NoTab.new hT b1.size)
  have HRQ := Lib.hid hlt
  have HB2 := Lib.hid (hb1.of_below b2)
  have HQ2 : Hid (Blk W2 w1.heap.size (srD most ⟨#[]⟩ 0) 27) := Lib.hid q1
  have BB2 := Lib.hid (b1.trans (b2.mono b1.size))
  have HT2 := Lib.hid (hT.below BB2.out)
  obtain ⟨Q, hQ⟩ : ∃ Q, w1.heap.size = Q := ⟨_, rfl⟩
  rw [hQ] at HNQ HRQ HQ2
  clear hb1 b1 q1 b2 hlt hT
  go_wp2_with fail
  refine (swakes_any _ HT2.out).mono ?_
  rintro e w3 ⟨rfl, b3⟩
  have HB3 := Lib.hid (HB2.out.of_below b3)
  have HQ3 := Lib.hid (HQ2.out.of_below b3)
  have BB3 := Lib.hid (BB2.out.trans (b3.mono BB2.out.size))
  clear b3 hW2 hQ
  go_wp2_with fail
  go_loopw [27] (fun iv wr => ∃ (i : Nat) (left : ByteArray) (c : Int), iv = .int .i64 i ∧ i ≤ m ∧ Hid (0 ≤ c ∧ c ≤ 255) ∧ Hid (Blk wr w.heap.size (srA most left c) 72) ∧ Hid (Blk wr Q (srD most left c) 27) ∧ Hid (left.size + bulkS (ss.drop i) ≤ 1048576) ∧ Hid (Below w.heap.size w wr)) (fun iv _ => ((m : Int) - intOf iv).toNat)
  case atStart => exact ⟨0, ⟨#[]⟩, 0, rfl, Nat.zero_le _, Lib.hid (by decide), HB3, HQ3, Lib.hid (by rw [List.drop_zero]; have := HU.out; show 0 + _ ≤ _; omega), BB3⟩
  case round =>
    obtain ⟨i, left, c, rfl, hi, hcb, hR, hQ, hY, hB⟩ := hrel
    by_cases him : i < m
    · obtain ⟨s, hsi⟩ : ∃ s, ss[i]? = some s := ⟨_, List.getElem?_eq_getElem (by omega)⟩
      obtain ⟨b, o, rfl, hlt, hcl⟩ := H3.out (by omega)
      have hcell : wr.cell? ⟨b, o + i, none⟩ = some (.string s) := (hB.out.cell (p := ⟨b, o + i, none⟩) hlt).trans (hcl i _ hsi)
      have hdr : ss.drop i = s :: ss.drop (i + 1) := by
        rw [List.drop_eq_getElem_cons (by omega)]
        congr 1
        exact (List.getElem?_eq_some_iff.1 hsi).2
      have hsz : left.size + (s.size + 1 + bulkS (ss.drop (i + 1))) ≤ 1048576 := by
        have := hY.out
        rw [hdr, bulkS_cons] at this
        exact this
      have HTr := Lib.hid (HT.out.below hB.out)
      have CF := Lib.hid (sfeed_both w.heap.size most left s c wr hR.out h0 h1 (by omega) HTr.out)
      have hnb := n_bounds most left s c hcb.out
      have HSZ := Lib.hid hsz
      have HNB := Lib.hid hnb
      have iI : (i : Int) < (m : Int) := by omega
      have HSS : left.size + s.size ≤ 1048576 := by omega
      clear hsi hcl hdr hsz hnb hY hlt him
      go_wp2_with fail
      refine CF.out.mono ?_
      rintro e w5 ⟨v5, rfl, hpk, hbk, hmod⟩
      obtain ⟨c', hcc⟩ : ∃ c', nC most left s c = c' := ⟨_, rfl⟩
      obtain ⟨L, hL⟩ : ∃ L, nL most left s c = L := ⟨_, rfl⟩
      obtain ⟨left', hl'⟩ : ∃ l', nR most left s c = l' := ⟨_, rfl⟩
      have hnb := HNB.out
      have CD := dfeed_both Q most left s c w5 (hQ.out.mod hmod (fun e => by have := HRQ.out; omega)) h0 h1 HSS
      unfold DbPost at CD
      rw [hcc, hL, hl'] at hnb CD
      rw [hL] at hpk
      rw [hcc, hl'] at hbk
      rw [hcc]
      obtain ⟨⟨hc0, hc255⟩, hroom, hfits⟩ := hnb
      obtain ⟨A1, cap1, rfl, hca1, hcm1⟩ := hpk.form
      have HPK := Lib.hid hpk
      have HBK := Lib.hid hbk
      have CD := Lib.hid CD
      have HQW := Lib.hid hQ.out.lt
      have HB5 := Lib.hid (hB.out.trans (hmod.below hB.out.size (fun k hk => by subst hk; exact Nat.le_refl _)))
      have HT5 := Lib.hid (tabs_mod HTr.out hmod HN.out)
      have HW5 := Lib.hid hmod.size
      have HFT := Lib.hid hfits
      have HRM := Lib.hid hroom
      have HWR := Lib.hid hB.out.size
      clear hcc hL hl' hpk hbk hmod hR hQ hB HTr CF hfits hroom
      go_wp2_with fail
      refine CD.out.mono ?_
      rintro e w6 ⟨v6, rfl, hpk, hbk, hmod⟩
      obtain ⟨A2, cap2, rfl, hca2, hcm2⟩ := hpk.form
      have HPD := Lib.hid hpk
      have HQK := Lib.hid hbk
      have HPK6 := Lib.hid (HPK.out.keep (w' := w6) (fun k k1 k2 => hmod.block k k2 (fun e => by have := HQW.out; omega)))
      have HR6 := Lib.hid (HBK.out.mod hmod (fun e => by have := HRQ.out; omega))
      have HB6 := Lib.hid (HB5.out.trans (hmod.below HB5.out.size (fun k hk => by subst hk; exact Nat.le_of_lt HRQ.out)))
      have HW6 := Lib.hid (Nat.le_trans HW5.out hmod.size)
      have x1 : w6.cell? ⟨Q, 1, none⟩ = some (.string left') := hbk.cell 1
      have wkc : IntKind.i64.wrap c' = c' := IntWalk.i64_in _ (by omega)
      have xe : (c' == c') = true := by simp
      have xn : (c' != c') = false := by simp
      have fe : (left'.toList == left'.toList) = true := by simp
      have fn : (left'.toList != left'.toList) = false := by simp
      have ln : ((L.length : Int) != (L.length : Int)) = false := by simp
      have CL := Lib.hid (fun X (hX : Blk X w.heap.size (srA most left' c') 72) => sleft_eq w.heap.size most left' c' X hX)
      have HDR : Hid (Blk w6.drew w.heap.size (srA most left' c') 72) := HR6
      have hL20 : L.length ≤ 1048576 := by have := HRM.out; omega
      have HCB := Lib.hid (And.intro hc0 hc255)
      clear hpk hbk hmod HPK HBK CD HB5 HW5
      go_wp2_with fail
      go_quiet (first | (go_at_call 11; refine Calls.quiet_of_same (CL.out _ HR6.out)))
      go_wp2_with fail
      go_loopw [65] (fun jv wq => ∃ j : Nat, jv = .int .i64 j ∧ j ≤ L.length ∧ Hid (Below w6.heap.size w6 wq)) (fun jv _ => ((L.length : Int) - intOf jv).toNat)
      case atStart => exact ⟨0, rfl, Nat.zero_le _, Lib.hid ⟨rfl, rfl, rfl, Nat.le_refl _, fun _ _ => rfl⟩⟩
      case round =>
        obtain ⟨j, rfl, hj, hb⟩ := hrel
        by_cases hjl : j < L.length
        · obtain ⟨p, hpj⟩ : ∃ p, L[j]? = some p := ⟨_, List.getElem?_eq_getElem hjl⟩
          obtain ⟨g1, o1, m1, e1, r1, k1⟩ := HPK6.out.at hpj
          obtain ⟨g2, o2, m2, e2, r2, k2⟩ := HPD.out.at hpj
          subst e1 e2
          have l1 : g1 < w6.heap.size := World.block_lt_of_cell? _ ⟨g1, o1 + j * 26 + 0, none⟩ (r1 0 (.int .i64 p.kind) rfl)
          have l2 : g2 < w6.heap.size := World.block_lt_of_cell? _ ⟨g2, o2 + j * 26 + 0, none⟩ (r2 0 (.int .i64 p.kind) rfl)
          have hfp := HFT.out p (List.mem_of_getElem? hpj)
          have hbd : Below w6.heap.size w6 wr.drew := hb.out.drew
          have CS := Lib.hid (samepk_any p m1 m2 wr.drew ((k1.below hbd).pkin hfp) ((k2.below hbd).pkin hfp))
          have HR1 := Lib.hid r1
          have HR2 := Lib.hid r2
          have HL12 := Lib.hid (And.intro l1 l2)
          have HBD := Lib.hid hbd
          have jI : (j : Int) < (L.length : Int) := by omega
          have jc1 : (L.length : Int) ≤ (cap1 : Int) := by omega
          have jc2 : (L.length : Int) ≤ (cap2 : Int) := by omega
          clear hpj r1 r2 k1 k2 l1 l2 hfp hjl hbd
          go_wp2_with fail
          refine wp_region_held (S := fun W => Below w6.heap.size w6 W) (by kernel_rfl) ?_
          change wpAnyH _ _ _ _ _ _ _ _ wr.drew
          have s0 := HBD.out
          refine wpAnyH_takeD (i := 0) (d := 68) (v := .slice (some ⟨g1, o1, none⟩) L.length cap1) rfl rfl (by kernel_rfl) (by kernel_rfl) (by kernel_rfl) (fun _ _ _ h => h) (y_move _ rfl rfl rfl) s0 ?_
          simp only [Act.put, List.setIfInBounds_toArray, List.set_cons_succ, List.set_cons_zero]
          refine wpAnyH_takeD (i := 1) (d := 69) (v := .int .i64 j) rfl rfl (by kernel_rfl) (by kernel_rfl) (by kernel_rfl) (fun _ _ _ h => h) (y_move _ rfl rfl rfl) s0 ?_
          simp only [Act.put, List.setIfInBounds_toArray, List.set_cons_succ, List.set_cons_zero]
          refine wpAnyH_takeD (i := 2) (d := 70) (v := .pointer (some ⟨g1, o1 + j * 26, none⟩)) rfl rfl (by kernel_rfl) (by kernel_rfl) (by kernel_rfl) (fun _ _ _ h => h) (y_indexU _ rfl rfl rfl rfl (fun W => by go_simp)) s0 ?_
          simp only [Act.put, List.setIfInBounds_toArray, List.set_cons_succ, List.set_cons_zero]
          refine wpAnyH_takeD (i := 3) (d := 71) (v := .agg (pkA .u8 p m1)) rfl rfl (by kernel_rfl) (by kernel_rfl) (by kernel_rfl) (fun _ _ _ h => h) (y_load_midU _ rfl rfl rfl Tryd.underlying45 rfl gpk_size (fun W hW => range_belowU HR1.out HL12.out.1 hW)) s0 ?_
          simp only [Act.put, List.setIfInBounds_toArray, List.set_cons_succ, List.set_cons_zero]
          refine wpAnyH_takeD (i := 4) (d := 72) (v := .slice (some ⟨g2, o2, none⟩) L.length cap2) rfl rfl (by kernel_rfl) (by kernel_rfl) (by kernel_rfl) (fun _ _ _ h => h) (y_move _ rfl rfl rfl) s0 ?_
          simp only [Act.put, List.setIfInBounds_toArray, List.set_cons_succ, List.set_cons_zero]
          refine wpAnyH_takeD (i := 5) (d := 73) (v := .int .i64 j) rfl rfl (by kernel_rfl) (by kernel_rfl) (by kernel_rfl) (fun _ _ _ h => h) (y_move _ rfl rfl rfl) s0 ?_
          simp only [Act.put, List.setIfInBounds_toArray, List.set_cons_succ, List.set_cons_zero]
          refine wpAnyH_takeD (i := 6) (d := 74) (v := .pointer (some ⟨g2, o2 + j * 26, none⟩)) rfl rfl (by kernel_rfl) (by kernel_rfl) (by kernel_rfl) (fun _ _ _ h => h) (y_indexU _ rfl rfl rfl rfl (fun W => by go_simp)) s0 ?_
          simp only [Act.put, List.setIfInBounds_toArray, List.set_cons_succ, List.set_cons_zero]
          refine wpAnyH_takeD (i := 7) (d := 75) (v := .agg (pkA .i64 p m2)) rfl rfl (by kernel_rfl) (by kernel_rfl) (by kernel_rfl) (fun _ _ _ h => h) (y_load_midU _ rfl rfl rfl Tryd.underlying52 rfl dpk_size (fun W hW => range_belowU HR2.out HL12.out.2 hW)) s0 ?_
          simp only [Act.put, List.setIfInBounds_toArray, List.set_cons_succ, List.set_cons_zero]
          refine wpAnyH_one (i := 8) (by kernel_rfl) ?_
          refine' wpOp_of_wp ?ho ?hg ?hz
          case ho => (simp only [List.getElem?_toArray, List.getElem?_cons_succ, List.getElem?_cons_zero]; rfl)
          case hg => rfl
          case hz =>
          go_simp
          (with_reducible refine CS.out.mono ?_)
          rintro e V ⟨rfl, bv⟩
          have sV : Below w6.heap.size w6 V := HBD.out.trans (bv.mono HBD.out.size)
          refine ⟨sV, ?_⟩
          refine wpAnyH_takeD (i := 9) (d := 77) (v := .bool false) rfl rfl (by kernel_rfl) (by kernel_rfl) (by kernel_rfl) (fun _ _ _ h => h) (Or.inl ⟨rfl, fun W hW => by go_simp⟩) sV ?_
          simp only [Act.put, List.setIfInBounds_toArray, List.set_cons_succ, List.set_cons_zero]
          refine ⟨by kernel_rfl, ?_⟩
          have HV := Lib.hid sV
          clear sV bv s0
          go_wp2_with fail
          go_roundw
          case rel => exact ⟨j + 1, by go_num, by omega, HV⟩
          case measure => simp [intOf]; omega
        · obtain rfl : j = L.length := by omega
          have hnn : ¬ ((L.length : Int) < (L.length : Int)) := by omega
          have HRE := Lib.hid (HR6.out.of_below hb.out)
          have HQE : Hid (Blk wr Q (srD most left' c') 27) := Lib.hid (HQK.out.of_below hb.out)
          have HBE := Lib.hid (HB6.out.trans (hb.out.mono HB6.out.size))
          have HYE : Hid (left'.size + bulkS (ss.drop (i + 1)) ≤ 1048576) := Lib.hid (by have := HSZ.out; have := HRM.out; omega)
          clear hjl
          go_wp2_with fail
          go_roundw
          case rel => exact ⟨i + 1, left', c', by go_num, by omega, HCB, HRE, HQE, HYE, HBE⟩
          case measure => simp [intOf]; omega
    · obtain rfl : i = m := by omega
      have hnn : ¬ ((i : Int) < (i : Int)) := by omega
      go_wp2
      go_ret
      exact ⟨rfl, hB.out⟩
end Go.Proofs.YtedapgeabpadaaaDoor

