/- Parts of the proof, joined: StrT, StrW, IntArg, Args. -/
import Derived.Test.YtedapgeabpadaaaDoorH6P19
import Derived.Test.YtedapgeabpadaaaDoorH6P15
import Derived.Deep.MidRow
import Derived.Test.YtedapgeabpadaaaDoorRows
import Derived.Test.YtedapgeabpadaaaDoorH6P6
import Derived.WalkKit
import Derived.ProofKit
import Derived.OpenShut
import Derived.ShutString
import Derived.SizedLaws
import Derived.Deep.Slices
import Derived.Deep.Fields
import Derived.Deep.Strs
/- Law 06's told: all packets that pieces tell, put again, and the code. -/
namespace Go.Proofs.YtedapgeabpadaaaDoor
set_option linter.unusedVariables false
open Go.RowKit Pl Go.Shelf Go.PlainAid

theorem split_room (most : Int) : ∀ (f : Nat) (s : ByteArray), (splitF most f s).1.length + (splitF most f s).2.1.size ≤ s.size := by
  intro f
  induction f with
  | zero => intro s; show 0 + s.size ≤ s.size; omega
  | succ f ih =>
    intro s
    by_cases h0 : s.size = 0
    · rw [split_end h0]; show 0 + s.size ≤ s.size; omega
    · unfold splitF
      rw [if_neg h0]
      split
      · show 0 + s.size ≤ s.size; omega
      · split
        · show 0 + s.size ≤ s.size; omega
        · rename_i hc2 hc0
          split
          · show 0 + s.size ≤ s.size; omega
          · split
            · show 0 + s.size ≤ s.size; omega
            · obtain ⟨⟨v, e, c⟩, hv⟩ : ∃ x, getV s 1 = x := ⟨_, rfl⟩
              rw [hv] at hc0
              have hc0 : c = 0 := Classical.byContradiction hc0
              subst hc0
              obtain ⟨m, k, rfl, rfl, k2, _, _, _⟩ := get1 (by omega) hv
              rw [hv]
              have i1 := ih (s.extract ((k : Int) + (m : Int)).toNat s.size)
              have hz : (s.extract ((k : Int) + (m : Int)).toNat s.size).size = s.size - (k + m) := by rw [ByteArray.size_extract]; omega
              simp only [List.length_cons]
              omega
theorem feed_room (most : Int) (x : ByteArray) : (feedL most x).length + (feedR most x).size ≤ x.size := by
  have h := split_room most x.size x
  have h2 := gets_len (sp most x).1
  unfold feedL feedR
  unfold sp at h2 ⊢
  split
  · show _ + 0 ≤ _; omega
  · omega
theorem gets_fits : ∀ (l : List ByteArray), ∀ p ∈ (getsP l).1, p.fits := by
  intro l
  induction l with
  | nil => intro p hp; simp [getsP] at hp
  | cons b r ih =>
    intro p hp
    unfold getsP at hp
    split at hp
    · simp at hp
    · rcases List.mem_cons.1 hp with rfl | hp
      · exact get_fits b
      · exact ih p hp
theorem feed_fits (most : Int) (x : ByteArray) : ∀ p ∈ feedL most x, p.fits := gets_fits _
/-- 'out = append(out, s)', for the walk. -/
theorem wpList_sstr {ops : Array Oper} {rest : List Oper} {o : Oper} {a : Act} {w : World} {Q : Exit → Act → World → Prop} (s x : Operand) (B : Nat) (v : Value) (L : List ByteArray) (t : ByteArray) (b : Nat)
    (hgd : o.guard = none) (ho : o.op = .call { callee := .builtin .append, args := #[s, x], argTypes := #[22, 22] })
    (hs : a.eval s = v) (hx : a.eval x = .slice (some ⟨b, 0, none⟩) 1 1) (h : Sl B w 9 1 v L.length (L.map Value.string)) (hb : Blk w b #[.string t] 9) (hB : B ≤ w.heap.size) (hl : L.length ≤ 1048576)
    (hK : ∀ v' w', Sl B w' 9 1 v' (L ++ [t]).length ((L ++ [t]).map Value.string) → w.grownBy w' v.ownBlock → (∀ k, v.ownBlock = some k → B ≤ k) → (v'.ownBlock = v.ownBlock ∨ v'.ownBlock = some w.heap.size) → wpList Tryd.prog ops Q rest (a.put o.dst v') w') :
    wpList Tryd.prog ops Q (o :: rest) a w := by
  obtain ⟨i0, hi, hz0, hz1, hz2⟩ := info_parts info_str
  refine wpList_append_sl s x 22 i0 _ _ b #[.string t] hgd ho Tryd.underlying22 hi hz0 hz1 hz2 rfl (by decide) rfl (fun u hu => by simp at hu; subst hu; rfl) hs hx h hb hB (by unfold maxLen; omega) (by omega) ?_
  intro v' w' r1 r2 r3
  refine hK v' w' (by rw [List.length_append, List.map_append]; exact r1) r2 (fun k hk => (h.lt k hk).1) r3
/-- A packet's cells loaded out of a row. -/
theorem wpList_load_pk {ops : Array Oper} {rest : List Oper} {op : Oper} {a : Act} {w : World} {Q : Exit → Act → World → Prop} (x : Operand) (b o : Nat) (p : Pk) (m : Hs) (hgd : op.guard = none) (ho : op.op = .load 45 x)
    (hx : a.eval x = .pointer (some ⟨b, o, none⟩)) (hc : w.rangeAt b o (pkA .u8 p m).toList) (h : wpList Tryd.prog ops Q rest (a.put op.dst (.agg (pkA .u8 p m))) w) : wpList Tryd.prog ops Q (op :: rest) a w :=
  wpList_load_mid hgd 45 x ho b o hx (pkA .u8 p m).toList _ hc Tryd.underlying45 rfl (by rw [gpk_size]; rfl) (by rw [Array.toArray_toList]; exact h)
theorem PksAt.at {B : Nat} {w : World} {A : Option Addr} {n cap : Nat} {L : List Pk} (h : PksAt B w (.slice A n cap) L) {j : Nat} {p : Pk} (hj : L[j]? = some p) : ∃ g o m, A = some ⟨g, o, none⟩ ∧ w.rangeAt g (o + j * 26) (pkA .u8 p m).toList ∧ PkO B w p m := by
  obtain ⟨ms, h1, h2, h3⟩ := h
  have hl := (List.getElem?_eq_some_iff.1 hj).1
  obtain ⟨g, o, cap', e, _, _, _, _, hcl⟩ := h2.at (by omega)
  injection e with e1 _ _
  obtain ⟨m, hm⟩ : ∃ m, ms[j]? = some m := ⟨_, List.getElem?_eq_getElem (by omega)⟩
  refine ⟨g, o, m, e1, fun i v hv => ?_, h3 j p m hj hm⟩
  rw [Nat.add_assoc]
  exact hcl _ _ (pks_cells hj hm i v (by simpa using hv))
theorem PksAt.form {B : Nat} {w : World} {v : Value} {L : List Pk} (h : PksAt B w v L) : ∃ A cap, v = .slice A L.length cap ∧ L.length ≤ cap ∧ cap ≤ maxLen := by
  obtain ⟨ms, h1, h2, h3⟩ := h
  obtain ⟨ao, cap, e, h4, h5, _⟩ := h2.form
  exact ⟨ao, cap, e, h4, h5⟩
theorem PksAt.keep {B : Nat} {w w' : World} {v : Value} {L : List Pk} (h : PksAt B w v L) (hk : ∀ k, B ≤ k → k < w.heap.size → w'.heap[k]? = w.heap[k]?) : PksAt B w' v L := by
  obtain ⟨ms, h1, h2, h3⟩ := h
  have sm : ∀ (e : TypeId) (size : Nat) u n xs, Sl B w e size u n xs → Sl B w' e size u n xs := fun e size u n xs s => s.same fun k k2 => hk k (s.lt k k2).1 (s.lt k k2).2
  exact ⟨ms, h1, sm _ _ _ _ _ h2, fun i p m a b => (h3 i p m a b).same fun e size u n xs s _ => sm e size u n xs s⟩
/-- The blocks from B1 tu B2 stand. -/
def Stand (B1 B2 : Nat) (w w' : World) : Prop := ∀ k, B1 ≤ k → k < B2 → w'.heap[k]? = w.heap[k]?
theorem Stand.below {B1 B2 : Nat} {a b c : World} (h : Stand B1 B2 a b) (k : Below b.heap.size b c) (hB : B2 ≤ b.heap.size) : Stand B1 B2 a c := fun i h1 h2 => (k.block i (by omega)).trans (h i h1 h2)
theorem Stand.grown {B1 B2 : Nat} {a b c : World} {row : Option Nat} (h : Stand B1 B2 a b) (k : b.grownBy c row) (hB : B2 ≤ b.heap.size) (hr : ∀ i, row = some i → i < B1 ∨ B2 ≤ i) : Stand B1 B2 a c := fun i h1 h2 =>
  (k.block i (by omega) (fun e => by have := hr i e.symm; omega)).trans (h i h1 h2)
def OutOf (B1 B2 : Nat) (v : Value) : Prop := ∀ k, v.ownBlock = some k → k < B1 ∨ B2 ≤ k
theorem told_nil (most : Int) (left : ByteArray) : toldP most left [] = ([], 0) := rfl
theorem told_stop {most : Int} {left s : ByteArray} {r : List ByteArray} (h : feedC most (left ++ s) ≠ 0) : toldP most left (s :: r) = ((feedL most (left ++ s)).map pkS, feedC most (left ++ s)) := by
  show (if feedC most (left ++ s) ≠ 0 then _ else _) = _
  rw [if_pos h]
theorem told_go {most : Int} {left s : ByteArray} {r : List ByteArray} (h : feedC most (left ++ s) = 0) : toldP most left (s :: r) = ((feedL most (left ++ s)).map pkS ++ (toldP most (feedR most (left ++ s)) r).1, (toldP most (feedR most (left ++ s)) r).2) := by
  show (if feedC most (left ++ s) ≠ 0 then _ else _) = _
  rw [if_neg (fun c => c h)]
theorem Sl.mod1 {B n size R : Nat} {w w' : World} {e T : TypeId} {v : Value} {xs : List Value} {cs : Array Value} (h : Sl B w e size v n xs) (hb : Blk w R cs T) (hT : T ≠ e) (m : Mod (· = R) w w') : Sl B w' e size v n xs := h.one_mod hb hT m
set_option maxRecDepth 100000 in
set_option maxHeartbeats 8000000 in
theorem stold_any (a : Option Addr) (cap : Nat) (ps : List ByteArray) (most : Int) (w : World) (hp : VRow w a (ps.map Value.string)) (hc : ps.length ≤ cap) (hn : ps.length ≤ 1048576) (h0 : -9223372036854775808 ≤ most) (h1 : most ≤ 9223372036854775807) (hz : (catB ps).size ≤ 1048576) (hT : Tabs w) :
    Calls Tryd.prog 13 #[.slice a ps.length cap, .int .i64 most] w fun e w' => ∃ v, e = .returned (.tuple #[v, .int .u8 (toldP most ⟨#[]⟩ ps).2]) ∧ Sl w.heap.size w' 9 1 v (toldP most ⟨#[]⟩ ps).1.length ((toldP most ⟨#[]⟩ ps).1.map Value.string) ∧ Below w.heap.size w w' := by
  have HP := Lib.hid hp
  have HT := Lib.hid hT
  have HZ0 := Lib.hid hz
  clear hp hT hz
  go_enter Tryd.func13, Tryd.ntmps13
  go_wp2_with fail
  refine (snew_any most _).mono ?_
  rintro e w0 ⟨rfl, hb0, b0⟩
  have HB0 := Lib.hid hb0
  have HL0 := Lib.hid b0
  clear hb0 b0
  go_wp2_with fail
  go_loopw [7, 20] (fun ov iv wr => ∃ (i : Nat) (left : ByteArray) (acc : List ByteArray), iv = .int .i64 i ∧ i ≤ ps.length ∧ Hid (Sl w.heap.size wr 9 1 ov acc.length (acc.map Value.string)) ∧ Hid (Blk wr w.heap.size (srA most left 0) 72) ∧ Hid (toldP most ⟨#[]⟩ ps = (acc ++ (toldP most left (ps.drop i)).1, (toldP most left (ps.drop i)).2)) ∧ Hid (acc.length + left.size + (catB (ps.drop i)).size ≤ 1048576) ∧ Hid (Below w.heap.size w wr)) (fun _ iv _ => ((ps.length : Int) - intOf iv).toNat)
  case atStart => exact ⟨0, ⟨#[]⟩, [], rfl, Nat.zero_le _, Lib.hid (Sl.nil _ _ _ _), HB0, Lib.hid rfl, Lib.hid (by have := HZ0.out; show 0 + 0 + _ ≤ _; rw [List.drop_zero]; omega), HL0⟩
  case round =>
    obtain ⟨i, left, acc, rfl, hi, hS, hR, hE, hY, hB⟩ := hrel
    by_cases hil : i < ps.length
    · obtain ⟨s, hsi⟩ : ∃ s, ps[i]? = some s := ⟨_, List.getElem?_eq_getElem hil⟩
      obtain ⟨b, o, rfl, hlt, hcl⟩ := HP.out (by rw [List.length_map]; omega)
      have hcell : wr.cell? ⟨b, o + i, none⟩ = some (.string s) := (hB.out.cell (p := ⟨b, o + i, none⟩) hlt).trans (hcl i _ (by rw [List.getElem?_map, hsi]; rfl))
      have hdr : ps.drop i = s :: ps.drop (i + 1) := by
        rw [List.drop_eq_getElem_cons hil]
        congr 1
        exact (List.getElem?_eq_some_iff.1 hsi).2
      have hsz : acc.length + left.size + (s.size + (catB (ps.drop (i + 1))).size) ≤ 1048576 := by
        have := hY.out
        rw [hdr, show catB (s :: ps.drop (i + 1)) = s ++ catB (ps.drop (i + 1)) from rfl, ByteArray.size_append] at this
        exact this
      have HTr := Lib.hid (HT.out.below hB.out)
      have CF := Lib.hid (sfeed_any w.heap.size most left s wr hR.out h0 h1 (by omega) HTr.out)
      have hroom := feed_room most (left ++ s)
      rw [ByteArray.size_append] at hroom
      have HDR := Lib.hid hdr
      have HSZ := Lib.hid hsz
      have HRM := Lib.hid hroom
      have HFT := Lib.hid (feed_fits most (left ++ s))
      have iI : (i : Int) < (ps.length : Int) := by omega
      clear hsi hcl hdr hsz hroom hY hlt hil
      go_wp2_with fail
      refine CF.out.mono ?_
      rintro e w1 ⟨v, rfl, hpk, hbk, hmod⟩
      have HE2 : Hid (∀ c, feedC most (left ++ s) = c → if c ≠ 0 then toldP most ⟨#[]⟩ ps = (acc ++ (feedL most (left ++ s)).map pkS, c) else toldP most ⟨#[]⟩ ps = ((acc ++ (feedL most (left ++ s)).map pkS) ++ (toldP most (feedR most (left ++ s)) (ps.drop (i + 1))).1, (toldP most (feedR most (left ++ s)) (ps.drop (i + 1))).2)) := Lib.hid (by
        intro c hc
        have := hE.out
        rw [HDR.out] at this
        split
        · rename_i hcc
          rw [told_stop (by rw [hc]; exact hcc), hc] at this
          exact this
        · rename_i hcc
          rw [told_go (by rw [hc]; exact Classical.byContradiction hcc)] at this
          rw [this, List.append_assoc])
      obtain ⟨L, hL⟩ : ∃ L, feedL most (left ++ s) = L := ⟨_, rfl⟩
      obtain ⟨c, hcc⟩ : ∃ c, feedC most (left ++ s) = c := ⟨_, rfl⟩
      obtain ⟨left2, hl2⟩ : ∃ x, feedR most (left ++ s) = x := ⟨_, rfl⟩
      have he3 := HE2.out c hcc
      have hrm := HRM.out
      have hft := HFT.out
      rw [hL, hl2] at he3 hrm
      rw [hL] at hpk hft
      rw [hcc, hl2] at hbk
      rw [hcc]
      have hSw := hS.out.mod1 hR.out (by decide) hmod
      have hlow : ∀ k, u7.ownBlock = some k → k < wr.heap.size := fun k hk => (hS.out.lt k hk).2
      have hB1 : Below w.heap.size w w1 := hB.out.trans (hmod.below hB.out.size (fun k hk => by subst hk; exact Nat.le_refl _))
      have hwr1 : wr.heap.size ≤ w1.heap.size := hmod.size
      have hwwr : w.heap.size ≤ wr.heap.size := hB.out.size
      obtain ⟨A2, cap2, rfl, hc2, hcm2⟩ := hpk.form
      obtain ⟨B1, hB1d⟩ : ∃ x, wr.heap.size = x := ⟨_, rfl⟩
      rw [hB1d] at hlow hpk hwr1 hwwr
      have HPK := Lib.hid hpk
      have HBK := Lib.hid hbk
      have HSW := Lib.hid hSw
      have HLO : Hid (OutOf B1 w1.heap.size u7) := Lib.hid (fun k hk => .inl (hlow k hk))
      have HBW := Lib.hid hB1
      have HRM2 := Lib.hid hrm
      have HFT2 := Lib.hid hft
      have HE3 := Lib.hid he3
      have HST : Hid (Stand B1 w1.heap.size w1 w1) := Lib.hid (fun k _ _ => rfl)
      have HB12 := Lib.hid (And.intro hwr1 hwwr)
      have hL20 : L.length ≤ 1048576 := by have := HSZ.out; omega
      have haL : acc.length + L.length ≤ 1048576 := by have := HSZ.out; omega
      clear hL hcc hl2 hpk hbk hSw hlow hB1 hrm hft he3 HE2 HRM HFT hmod hS hR hE hB HTr CF hcell hB1d hwr1 hwwr
      go_wp2_with fail
      go_loopw [7, 32] (fun ov2 jv wq => ∃ (j : Nat), jv = .int .i64 j ∧ j ≤ L.length ∧ Hid (Sl w.heap.size wq 9 1 ov2 (acc ++ (L.take j).map pkS).length ((acc ++ (L.take j).map pkS).map Value.string)) ∧ Hid (OutOf B1 w1.heap.size ov2) ∧ Hid (Stand B1 w1.heap.size w1 wq) ∧ Hid (Blk wq w.heap.size (srA most left2 c) 72) ∧ Hid (Below w.heap.size w wq) ∧ Hid (w1.heap.size ≤ wq.heap.size)) (fun _ jv _ => ((L.length : Int) - intOf jv).toNat)
      case atStart => exact ⟨0, rfl, Nat.zero_le _, Lib.hid (by rw [List.take_zero, List.map_nil, List.append_nil]; exact HSW.out), HLO, HST, HBK, HBW, Lib.hid (Nat.le_refl _)⟩
      case round =>
        obtain ⟨j, rfl, hj, hS, hO, hST, hR, hB, hQ⟩ := hrel
        by_cases hjl : j < L.length
        · obtain ⟨p, hpj⟩ : ∃ p, L[j]? = some p := ⟨_, List.getElem?_eq_getElem hjl⟩
          obtain ⟨g, o2, m, e1, hrange, hpo⟩ := (HPK.out.keep hST.out).at hpj
          subst e1
          have hfp := HFT2.out p (List.mem_of_getElem? hpj)
          have htk : (acc ++ (L.take (j + 1)).map pkS) = (acc ++ (L.take j).map pkS) ++ [pkS p] := by
            rw [List.take_add_one, hpj, List.map_append, List.append_assoc]
            rfl
          have hln : (acc ++ (L.take j).map pkS).length ≤ 1048576 := by rw [List.length_append, List.length_map, List.length_take]; omega
          obtain ⟨Y, hY⟩ : ∃ Y, wr.alloc (.cells #[.int .i64 0, .bool false, .bool false, .int .i64 0, .int .i64 0, .string ⟨#[]⟩, .string ⟨#[]⟩, .int .u8 0, .slice none 0 0, .slice none 0 0, .string ⟨#[]⟩, .bool false, .int .i64 0, .bool false, .string ⟨#[]⟩, .string ⟨#[]⟩, .int .i64 0, .bool false, .slice none 0 0, .bool false, .bool false, .string ⟨#[]⟩, .string ⟨#[]⟩, .bool false, .slice none 0 0, .slice none 0 0] 45) = Y := ⟨_, rfl⟩
          have hy : Blk Y wr.heap.size #[.int .i64 0, .bool false, .bool false, .int .i64 0, .int .i64 0, .string ⟨#[]⟩, .string ⟨#[]⟩, .int .u8 0, .slice none 0 0, .slice none 0 0, .string ⟨#[]⟩, .bool false, .int .i64 0, .bool false, .string ⟨#[]⟩, .string ⟨#[]⟩, .int .i64 0, .bool false, .slice none 0 0, .bool false, .bool false, .string ⟨#[]⟩, .string ⟨#[]⟩, .bool false, .slice none 0 0, .slice none 0 0] 45 := by rw [← hY]; exact Blk.new _ _ _
          have by_ : Below wr.heap.size wr Y := by rw [← hY]; exact (Below.refl _ _).alloc (Nat.le_refl _) _
          obtain ⟨Z, hZ⟩ : ∃ Z, Y.setRow wr.heap.size (pkA .u8 p m) = Z := ⟨_, rfl⟩
          have hz : Blk Z wr.heap.size (pkA .u8 p m) 45 := by rw [← hZ]; exact hy.row0 _
          have bz : Below wr.heap.size wr Z := by rw [← hZ]; exact below_setRow by_ (Nat.le_refl _) _
          have HY := Lib.hid hy
          have HZ := Lib.hid hz
          have HW : Hid (Blk (Y.setRow wr.heap.size (pkA .u8 p m)) wr.heap.size (pkA .u8 p m) 45) := Lib.hid (by rw [hZ]; exact hz)
          have HRG := Lib.hid hrange
          have HTZ := Lib.hid ((HT.out.below hB.out).below bz)
          have CP := Lib.hid (wput_any p m Z ((hpo.below bz).pkin hfp) HTZ.out)
          have HBZ := Lib.hid bz
          have HTK := Lib.hid htk
          have jI : (j : Int) < (L.length : Int) := by omega
          clear hpj hrange hpo hfp htk hy by_ hz bz hjl
          go_wp2_with (first | (refine wpList_load_pk (.tmp 34) g (o2 + j * 26) p m rfl rfl rfl HRG.out ?_) | (refine wpList_store_rowTo rfl 45 (.tmp 13) (.tmp 35) rfl rfl wr.heap.size (pkA .u8 p m) rfl rfl 45 #[.int .i64 0, .bool false, .bool false, .int .i64 0, .int .i64 0, .string ⟨#[]⟩, .string ⟨#[]⟩, .int .u8 0, .slice none 0 0, .slice none 0 0, .string ⟨#[]⟩, .bool false, .int .i64 0, .bool false, .string ⟨#[]⟩, .string ⟨#[]⟩, .int .i64 0, .bool false, .slice none 0 0, .bool false, .bool false, .string ⟨#[]⟩, .string ⟨#[]⟩, .bool false, .slice none 0 0, .slice none 0 0] HY.out gpk_size rfl (pkA_one _ _) ?_) | (refine wpList_load_row rfl 45 (.tmp 13) rfl wr.heap.size rfl 45 (pkA .u8 p m) (0, 0) _ HZ.out Tryd.underlying45 rfl gpk_size ?_) | (refine wpList_load_row rfl 45 (.tmp 13) rfl wr.heap.size rfl 45 (pkA .u8 p m) (0, 0) _ HW.out Tryd.underlying45 rfl gpk_size ?_) | (fail))
          refine CP.out.mono ?_
          rintro e V ⟨rfl, bv⟩
          obtain ⟨U, hU⟩ : ∃ U, V.alloc (.cells #[.string (pkS p)] 9) = U := ⟨_, rfl⟩
          have hub : Blk U V.heap.size #[.string (pkS p)] 9 := by rw [← hU]; exact Blk.new _ _ _
          have bu : Below V.heap.size V U := by rw [← hU]; exact (Below.refl _ _).alloc (Nat.le_refl _) _
          have bqu : Below wr.heap.size wr U := (HBZ.out.trans (bv.mono HBZ.out.size)).trans (bu.mono (Nat.le_trans HBZ.out.size bv.size))
          have hSU := hS.out.below bqu
          have hRU := hR.out.of_below bqu
          have hBU : Below w.heap.size w U := hB.out.trans (bqu.mono hB.out.size)
          have hSTU := hST.out.below bqu hQ.out
          have hQU : w1.heap.size ≤ U.heap.size := Nat.le_trans hQ.out bqu.size
          have HUB := Lib.hid hub
          have HSU := Lib.hid hSU
          have HRU := Lib.hid hRU
          have HBU := Lib.hid hBU
          have HSTU := Lib.hid hSTU
          have HQU := Lib.hid hQU
          have hBu : w.heap.size ≤ U.heap.size := hBU.size
          clear hub bu bqu hSU hRU hBU hSTU hQU bv hS hR hB hST hQ HY HZ HW HRG HTZ CP HBZ
          go_wp2_with (first | (refine wpList_sstr (.tmp 41) (.tmp 43) w.heap.size _ (acc ++ (L.take j).map pkS) (pkS p) V.heap.size rfl rfl rfl rfl HSU.out HUB.out hBu hln ?_; intro ov3 wf hpf hgf hof hor) | (fail))
          have hRF : Blk wf w.heap.size (srA most left2 c) 72 := (hgf.block _ HRU.out.lt (fun e => HSU.out.ne HRU.out (by decide) e.symm)).trans HRU.out
          have hbf : Below w.heap.size w wf := HBU.out.grown hgf hBu (fun k hk => hof k hk)
          have hsf := HSTU.out.grown hgf HQU.out (fun k hk => hO.out k hk)
          have hqf : w1.heap.size ≤ wf.heap.size := Nat.le_trans HQU.out hgf.size
          have hoo : OutOf B1 w1.heap.size ov3 := fun k hk => by
            rcases hor with c | c
            · exact hO.out k (c ▸ hk)
            · rw [c] at hk
              cases hk
              exact .inr HQU.out
          rw [← HTK.out] at hpf
          have HPF := Lib.hid hpf
          have HRF := Lib.hid hRF
          have HBF := Lib.hid hbf
          have HSF := Lib.hid hsf
          have HQF := Lib.hid hqf
          have HOF := Lib.hid hoo
          clear hRF hbf hsf hqf hoo hpf hgf hof hor HUB HSU HRU HBU HSTU HQU hBu HTK hU hO hln
          go_wp2
          go_roundw
          case rel => exact ⟨j + 1, by go_num, by omega, HPF, HOF, HSF, HRF, HBF, HQF⟩
          case measure => simp [intOf]; omega
        · obtain rfl : j = L.length := by omega
          have hSl := hS.out
          rw [List.take_length] at hSl
          have HSl := Lib.hid hSl
          have hnn : ¬ ((L.length : Int) < (L.length : Int)) := by omega
          clear hSl hS
          by_cases hc0 : c = 0
          · subst hc0
            have he := HE3.out
            rw [if_neg (by decide)] at he
            have HEE := Lib.hid he
            have HYY : Hid ((acc ++ L.map pkS).length + left2.size + (catB (ps.drop (i + 1))).size ≤ 1048576) := Lib.hid (by
              rw [List.length_append, List.length_map]
              have := HSZ.out
              have := HRM2.out
              omega)
            clear he
            go_wp2
            go_roundw
            case rel => exact ⟨i + 1, left2, acc ++ L.map pkS, by go_num, by omega, HSl, hR, HEE, HYY, hB⟩
            case measure => simp [intOf]; omega
          · have z0 : (c == 0) = false := beq_eq_false_iff_ne.2 hc0
            have z1 : (c != 0) = true := by rw [bne, z0]; rfl
            have he := HE3.out
            rw [if_pos hc0] at he
            have HEE := Lib.hid he
            clear hc0 he
            go_wp2
            go_ret2
            rw [HEE.out]
            exact ⟨_, rfl, HSl.out, hB.out⟩
    · obtain rfl : i = ps.length := by omega
      have hnn : ¬ ((ps.length : Int) < (ps.length : Int)) := by omega
      have he := hE.out
      rw [List.drop_length, told_nil, List.append_nil] at he
      have HEE := Lib.hid he
      clear he
      go_wp2
      go_ret2
      rw [HEE.out]
      exact ⟨_, rfl, hS.out, hB.out⟩
end Go.Proofs.YtedapgeabpadaaaDoor

/- Law 06's wakes. -/
set_option linter.unusedVariables false
namespace Go.Proofs.YtedapgeabpadaaaDoor
open Go.RowKit Pl Go.Shelf Go.PlainAid

def pk12 : Pk := { zPk with kind := 12 }
theorem wk_1 : feedL 100 (⟨#[]⟩ ++ ⟨#[192]⟩) = [] ∧ feedC 100 (⟨#[]⟩ ++ ⟨#[192]⟩) = 0 ∧ feedR 100 (⟨#[]⟩ ++ ⟨#[192]⟩) = ⟨#[192]⟩ := ⟨by kernel_rfl, by kernel_rfl, by kernel_rfl⟩
theorem wk_2 : feedL 100 (⟨#[192]⟩ ++ ⟨#[0, 192, 0]⟩) = [pk12, pk12] ∧ feedC 100 (⟨#[192]⟩ ++ ⟨#[0, 192, 0]⟩) = 0 := ⟨by kernel_rfl, by kernel_rfl⟩
set_option maxRecDepth 100000 in
set_option maxHeartbeats 4000000 in
theorem swakes_any (w : World) (hT : Tabs w) : Calls Tryd.prog 8 #[] w fun e w' => e = .returned (.bool true) ∧ Below w.heap.size w w' := by
  have HT := Lib.hid hT
  have HN := Lib.hid (NoTab.new hT (Nat.le_refl w.heap.size))
  clear hT
  go_enter Tryd.func8, Tryd.ntmps8
  go_wp2_with fail
  refine (snew_any 100 _).mono ?_
  rintro e w1 ⟨rfl, hb1, b1⟩
  have HB1 := Lib.hid hb1
  have BB1 := Lib.hid b1
  have HT1 := Lib.hid (HT.out.below b1)
  clear hb1 b1
  go_wp2_with fail
  refine (sfeed_any w.heap.size 100 ⟨#[]⟩ ⟨#[192]⟩ w1 HB1.out (by decide) (by decide) (by decide) HT1.out).mono ?_
  rintro e w2 ⟨v2, rfl, p2, hb2, m2⟩
  rw [wk_1.1] at p2
  rw [wk_1.2.1, wk_1.2.2] at hb2
  rw [wk_1.2.1]
  obtain ⟨A2, cap2, rfl, -, -⟩ := p2.form
  have HB2 := Lib.hid hb2
  have BB2 := Lib.hid (BB1.out.trans (m2.below BB1.out.size (fun k hk => by subst hk; exact Nat.le_refl _)))
  have HT2 := Lib.hid (tabs_mod HT1.out m2 HN.out)
  clear p2 hb2 m2
  simp only [List.length_nil]
  go_wp2_with fail
  refine (sleft_any w.heap.size 100 ⟨#[192]⟩ 0 w2 HB2.out).mono ?_
  rintro e w3 ⟨rfl, b3⟩
  have HB3 := Lib.hid (HB2.out.of_below b3)
  have BB3 := Lib.hid (BB2.out.trans (b3.mono BB2.out.size))
  have HT3 := Lib.hid (HT2.out.below b3)
  clear b3
  go_wp2_with fail
  refine (sfeed_any w.heap.size 100 ⟨#[192]⟩ ⟨#[0, 192, 0]⟩ w3 HB3.out (by decide) (by decide) (by decide) HT3.out).mono ?_
  rintro e w4 ⟨v4, rfl, p4, hb4, m4⟩
  rw [wk_2.1] at p4
  rw [wk_2.2]
  obtain ⟨A4, cap4, rfl, hc4, -⟩ := p4.form
  obtain ⟨g, o, m, rfl, hr, -⟩ := p4.at (j := 1) (p := pk12) rfl
  have x0 : w4.cell? ⟨g, o + 1 * 26 + 0, none⟩ = some (.int .i64 12) := hr 0 _ rfl
  have x0 : w4.cell? ⟨g, o + 26, none⟩ = some (.int .i64 12) := x0
  have BB4 := Lib.hid (BB3.out.trans (m4.below BB3.out.size (fun k hk => by subst hk; exact Nat.le_refl _)))
  simp only [List.length_cons, List.length_nil, Nat.zero_add, Nat.reduceAdd] at hc4 ⊢
  have hc4 : (2 : Int) ≤ (cap4 : Int) := by omega
  clear p4 hr hb4 m4
  go_wp2
  go_ret
  exact ⟨rfl, BB4.out⟩
end Go.Proofs.YtedapgeabpadaaaDoor

/- What the form's reading says of an argument that is a slice of integers. -/
namespace Go.Proofs.YtedapgeabpadaaaDoor
open Go.ChangeShapes Go.WideShapes Go.RowKit Go.Deep Pl
set_option linter.unusedVariables false

def SInts (w : World) (v : Value) (cs : List Int) : Prop := ∃ A cap, v = .slice A cs.length cap ∧ cs.length ≤ cap ∧ cap ≤ maxLen ∧ (∀ x ∈ cs, i64B x) ∧ VRow w A (cs.map (Value.int .i64))
def bulkI (cs : List Int) : Nat := cs.length
theorem bulk_pos {H : Type} : ∀ d : DataW H, 1 ≤ Rows.uptoBulk d
  | .lit l => by cases l <;> simp [Rows.uptoBulk]
  | .nil => by simp [Rows.uptoBulk]
  | .ptr d => by rw [Rows.uptoBulk]; omega
  | .slice a b => by rw [Rows.uptoBulk]; omega
  | .agg a => by rw [Rows.uptoBulk]; omega
  | .iface _ d => by rw [Rows.uptoBulk]; omega
  | .map e => by rw [Rows.uptoBulk]; omega
  | .held _ => by simp [Rows.uptoBulk]
theorem bulk_length {H : Type} : ∀ l : List (DataW H), l.length ≤ Rows.uptoBulkAll l
  | [] => Nat.zero_le _
  | x :: r => by
    have := bulk_length r
    have := bulk_pos x
    rw [Rows.uptoBulkAll, List.length_cons]; omega
theorem bulk_memD {H : Type} {x : DataW H} : ∀ {l : List (DataW H)}, x ∈ l → Rows.uptoBulk x ≤ Rows.uptoBulkAll l
  | y :: r, h => by
    rw [Rows.uptoBulkAll]
    rcases List.mem_cons.1 h with rfl | h
    · omega
    · have := bulk_memD h; omega
theorem cell_plain5 {w : World} {a : Addr} {v : Value} (h : w.cell? a = some v) : a.spot = none ∧ a.block < w.heap.size := by
  unfold World.cell? at h
  split at h
  · rename_i hg
    refine ⟨?_, (Array.getElem?_eq_some_iff.1 hg).1⟩
    split at h
    · cases h
    · rename_i hs; simpa using hs
  · cases h
section
variable {H : Type} {enc : TypeId × Value → H} {w : World}
/-- A slice, of whatever elements. -/
theorem open_row {α : Type} {e t k : Nat} (cells : α → List Value) (sz : α → Nat) (ok : α → Prop) (dft : α) (hk : Tryd.prog.cellsOf e = k) (hk0 : 0 < k) (hlen : ∀ r, (cells r).length = k) (ht : Tryd.prog.underlying t = some (.slice e))
    (rd : ∀ n cs' y, DataW.trod enc Tryd.prog w 0 (fun _ => true) true n e cs' = some y → ∃ r, cs' = cells r ∧ ok r ∧ sz r ≤ Rows.uptoBulk y.1) {fuel : Nat} {cs : List Value} {x : DataW H × List MemPlace} (h : DataW.trod enc Tryd.prog w 0 (fun _ => true) true fuel t cs = some x) :
    ∃ (A : Option Addr) (cap : Nat) (L : List α), cs = [.slice A L.length cap] ∧ L.length ≤ cap ∧ cap ≤ maxLen ∧ ((A = none ∧ cap = 0) ∨ ∃ a, A = some a) ∧ L.length ≤ Rows.uptoBulk x.1 ∧ (∀ r ∈ L, ok r ∧ sz r ≤ Rows.uptoBulk x.1) ∧
      (0 < L.length → ∃ b o, A = some ⟨b, o, none⟩ ∧ b < w.heap.size ∧ ∀ i r, L[i]? = some r → ∀ j u, (cells r)[j]? = some u → w.cell? ⟨b, o + i * k + j, none⟩ = some u) := by
  rcases open_slice ht h with ⟨hcs, hx⟩ | ⟨a, len, cap, m, n, D, Pc, hcs, _, hl, hm, hmm, hx, hi⟩
  · exact ⟨none, 0, [], hcs, Nat.le_refl _, Nat.zero_le _, .inl ⟨rfl, rfl⟩, Nat.zero_le _, (fun r hr => by cases hr), (fun h => absurd h (Nat.lt_irrefl 0))⟩
  · have hlm : len ≤ m := by rw [hmm]; split <;> omega
    have each : ∀ i, ∃ q : α, i < len → (∀ j u, (cells q)[j]? = some u → w.cell? ((a.add (i * k)).add j) = some u) ∧ ok q ∧ sz q ≤ Rows.uptoBulk (D i) := fun i => by
      by_cases hil : i < len
      · obtain ⟨cs', hc, ht⟩ := hi i (by omega)
        obtain ⟨q, hq, hfit, hsz⟩ := rd _ _ _ ht
        rw [hk] at hc
        obtain ⟨_, hcl, hat⟩ := World.cells?_some hc
        refine ⟨q, fun _ => ⟨fun j u hj => ?_, hfit, hsz⟩⟩
        have hj4 : j < k := by
          rw [← hlen q]; exact (List.getElem?_eq_some_iff.1 hj).1
        rw [hat j hj4, hq]
        exact hj
      · exact ⟨dft, fun h => absurd h hil⟩
    have hS := fun i => Classical.choose_spec (each i)
    have hbulk : len ≤ Rows.uptoBulk x.1 ∧ ∀ i, i < len → Rows.uptoBulk (D i) ≤ Rows.uptoBulk x.1 := by
      rw [hx]
      simp only [Rows.uptoBulk]
      have h1 := bulk_length ((List.range len).map D)
      rw [List.length_map, List.length_range] at h1
      refine ⟨by omega, fun i hi => ?_⟩
      have h2 := bulk_memD (List.mem_map.2 ⟨i, List.mem_range.2 hi, rfl⟩ : D i ∈ (List.range len).map D)
      omega
    have hLl : ((List.range len).map fun i => Classical.choose (each i)).length = len := by simp
    refine ⟨some a, cap, (List.range len).map (fun i => Classical.choose (each i)), by rw [hLl]; exact hcs, by rw [hLl]; exact hl, hm, .inr ⟨a, rfl⟩, by rw [hLl]; exact hbulk.1, fun r hr => ?_, fun hp => ?_⟩
    · obtain ⟨i, hir, rfl⟩ := List.mem_map.1 hr
      have hil := List.mem_range.1 hir
      exact ⟨(hS i hil).2.1, Nat.le_trans (hS i hil).2.2 (hbulk.2 i hil)⟩
    · rw [hLl] at hp
      obtain ⟨u0, hu0⟩ : ∃ u, (cells (Classical.choose (each 0)))[0]? = some u := ⟨_, List.getElem?_eq_getElem (by rw [hlen]; exact hk0)⟩
      have h00 := (hS 0 hp).1 0 u0 hu0
      have e0 : (a.add (0 * k)).add 0 = a := by unfold Addr.add; simp
      rw [e0] at h00
      obtain ⟨hs, hb⟩ := cell_plain5 h00
      obtain ⟨b, o, sp⟩ := a
      obtain rfl : sp = none := hs
      refine ⟨b, o, rfl, hb, fun i q hq j u hj => ?_⟩
      have hil : i < len := by have := (List.getElem?_eq_some_iff.1 hq).1; rw [hLl] at this; exact this
      rw [List.getElem?_map, List.getElem?_range hil] at hq
      obtain rfl : Classical.choose (each i) = q := by simpa using hq
      have c := (hS i hil).1 j u hj
      rw [Go.WideShapes.add_plain, Go.WideShapes.add_plain] at c
      exact c
theorem vrow_of {α : Type} {f : α → Value} {A : Option Addr} {L : List α} (h : 0 < L.length → ∃ b o, A = some ⟨b, o, none⟩ ∧ b < w.heap.size ∧ ∀ i r, L[i]? = some r → ∀ j u, ([f r])[j]? = some u → w.cell? ⟨b, o + i * 1 + j, none⟩ = some u) : VRow w A (L.map f) := by
  intro hp
  rw [List.length_map] at hp
  obtain ⟨b, o, e, hl, hc⟩ := h hp
  refine ⟨b, o, e, hl, fun i x hx => ?_⟩
  rw [List.getElem?_map] at hx
  obtain ⟨r, hr, rfl⟩ := Option.map_eq_some_iff.1 hx
  have := hc i r hr 0 _ rfl
  rw [Nat.mul_one, Nat.add_zero] at this
  exact this
theorem read_int {fuel : Nat} {cs : List Value} {x : DataW H × List MemPlace} (h : DataW.trod enc Tryd.prog w 0 (fun _ => true) true fuel 3 cs = some x) : ∃ r : Int, cs = [.int .i64 r] ∧ i64B r ∧ 0 ≤ Rows.uptoBulk x.1 := by
  obtain ⟨i, e, y, z⟩ := DataW.trod_int Tryd.underlying3 h
  exact ⟨i, e, i64_bd z, Nat.zero_le _⟩
set_option maxRecDepth 100000 in
theorem open_ints_arg {v : Value} {d : DataW H} {pl : List MemPlace} {r : Reach} {b0 : Nat} (hv : Value.okWide Tryd.prog w r b0 46 v) (h : DataW.Trod enc Tryd.prog w 0 (fun _ => true) true 46 v d pl) :
    ∃ x : List Int, SInts w v x ∧ bulkI x ≤ Rows.uptoBulk d := by
  obtain ⟨fuel, hf⟩ := h
  have hf : DataW.trod enc Tryd.prog w 0 (fun _ => true) true fuel 46 [v] = some (d, pl) := by
    have hs : v.cells.toList = [v] := by
      rcases okWide_slice Tryd.underlying46 hv with ⟨_, _, _, rfl, _⟩
      rfl
    rw [← hs]; exact hf
  obtain ⟨A, c, L, e, lc, cm, an, lb, ok, row⟩ := open_row (e := 3) (k := 1) (fun r : Int => [Value.int .i64 r]) (fun _ => 0) (fun r => i64B r) 0 (by kernel_rfl) (by decide) (fun _ => rfl) Tryd.underlying46 (fun n cs y h => read_int h) hf
  simp only [List.cons.injEq, and_true] at e
  exact ⟨L, ⟨A, c, e, lc, cm, fun x hx => (ok x hx).1, vrow_of row⟩, lb⟩
end
end Go.Proofs.YtedapgeabpadaaaDoor

/- What the form's reading says of an argument: slices of strings. -/
namespace Go.Proofs.YtedapgeabpadaaaDoor
open Go.ChangeShapes Go.WideShapes Go.RowKit Go.Deep
set_option linter.unusedVariables false

/-- A slice of strings reads as a list. -/
def Strs (w : World) (v : Value) (ss : List ByteArray) : Prop :=
  ∃ A cap, v = .slice A ss.length cap ∧ ss.length ≤ cap ∧ cap ≤ maxLen ∧
    (0 < ss.length → ∃ b o, A = some ⟨b, o, none⟩ ∧ b < w.heap.size ∧ ∀ i x, ss[i]? = some x → w.cell? ⟨b, o + i, none⟩ = some (.string x))
theorem Strs.below {w w' : World} {v : Value} {ss : List ByteArray} (h : Strs w v ss) (hb : Below w.heap.size w w') : Strs w' v ss := by
  obtain ⟨A, cap, rfl, h1, h2, h3⟩ := h
  refine ⟨A, cap, rfl, h1, h2, fun hp => ?_⟩
  obtain ⟨b, o, rfl, hl, hc⟩ := h3 hp
  exact ⟨b, o, rfl, Nat.lt_of_lt_of_le hl hb.size, fun i x hx => (hb.cell (p := ⟨b, o + i, none⟩) hl).trans (hc i x hx)⟩
/-- Its bulk. -/
def bulkS (ss : List ByteArray) : Nat := (ss.map fun x => x.size + 1).sum
theorem bulkS_cons (x : ByteArray) (r : List ByteArray) : bulkS (x :: r) = x.size + 1 + bulkS r := by simp [bulkS]
theorem bulk_len : ∀ ss : List ByteArray, ss.length ≤ bulkS ss
  | [] => Nat.zero_le _
  | x :: r => by
    have := bulk_len r
    rw [bulkS_cons, List.length_cons]; omega
theorem bulk_mem {x : ByteArray} : ∀ {ss : List ByteArray}, x ∈ ss → x.size + 1 ≤ bulkS ss
  | y :: r, h => by
    rw [bulkS_cons]
    rcases List.mem_cons.1 h with rfl | h
    · omega
    · have := bulk_mem h; omega
theorem bulkAll_append {H : Type} : ∀ a b : List (DataW H), Rows.uptoBulkAll (a ++ b) = Rows.uptoBulkAll a + Rows.uptoBulkAll b
  | [], b => by simp [Rows.uptoBulkAll]
  | x :: r, b => by simp only [List.cons_append, Rows.uptoBulkAll, bulkAll_append r b]; omega
theorem bulk_strs {H : Type} : ∀ ss : List ByteArray, Rows.uptoBulkAll (ss.map fun x => (.lit (.string x.data.toList) : DataW H)) = bulkS ss
  | [] => rfl
  | x :: r => by
    rw [List.map_cons, Rows.uptoBulkAll, bulk_strs r, bulkS_cons, Rows.uptoBulk]
    rfl
section
variable {H : Type} {enc : TypeId × Value → H} {w : World}
theorem spot_of_cell {a : Addr} {v : Value} (h : w.cell? a = some v) : a.spot = none ∧ a.block < w.heap.size := by
  refine ⟨?_, ?_⟩
  · unfold World.cell? at h
    split at h
    · split at h
      · cases h
      · rename_i hs; simpa using hs
    · cases h
  · unfold World.cell? at h
    split at h
    · rename_i hg
      exact (Array.getElem?_eq_some_iff.1 hg).1
    · cases h
set_option maxRecDepth 100000 in
theorem open_strs_arg {t e : TypeId} {v : Value} {d : DataW H} {p : List MemPlace} {r : Reach} {b0 : Nat} (ht : Tryd.prog.underlying t = some (.slice e)) (he : Tryd.prog.underlying e = some .string) (hc : Tryd.prog.cellsOf e = 1)
    (hv : Value.okWide Tryd.prog w r b0 t v) (h : DataW.Trod enc Tryd.prog w 0 (fun _ => true) true t v d p) : ∃ ss, Strs w v ss ∧ bulkS ss ≤ Rows.uptoBulk d := by
  obtain ⟨fuel, hf⟩ := h
  obtain ⟨a0, l0, c0, rfl⟩ := okWide_slice ht hv
  rcases open_strs ht he hc hf with ⟨hcs, hx⟩ | ⟨a, len, cap, m, Sx, hcs, _, hl, hm, hmm, hx, hcell⟩
  · simp [Value.cells] at hcs
    obtain ⟨rfl, rfl, rfl⟩ := hcs
    exact ⟨[], ⟨none, 0, rfl, Nat.le_refl _, Nat.zero_le _, fun h => absurd h (by simp)⟩, Nat.zero_le _⟩
  · simp [Value.cells] at hcs
    obtain ⟨rfl, rfl, rfl⟩ := hcs
    simp only [Prod.mk.injEq] at hx
    have hlen : ((List.range l0).map Sx).length = l0 := by simp
    have hlm : l0 ≤ m := by rw [hmm]; split <;> omega
    refine ⟨(List.range l0).map Sx, ⟨some a, c0, by rw [hlen], by rw [hlen]; exact hl, hm, fun hp => ?_⟩, ?_⟩
    · rw [hlen] at hp
      have h0 := (hcell 0 (by omega)).1
      have hs := spot_of_cell h0
      have e0 : a.add 0 = a := by unfold Addr.add; rw [if_pos rfl]
      rw [e0] at hs
      obtain ⟨b, o, sp⟩ := a
      obtain ⟨rfl, hb⟩ := hs
      refine ⟨b, o, rfl, hb, fun i x hx => ?_⟩
      have hi : i < l0 := by have := (List.getElem?_eq_some_iff.1 hx).1; rw [hlen] at this; exact this
      have h1 := (hcell i (by omega)).1
      rw [Go.WideShapes.add_plain] at h1
      rw [h1]
      rw [List.getElem?_map, List.getElem?_range hi] at hx
      simpa using hx
    · have e : ((List.range l0).map fun i => (.lit (.string (Sx i).data.toList) : DataW H)) = ((List.range l0).map Sx).map fun x => (.lit (.string x.data.toList) : DataW H) := by rw [List.map_map]; rfl
      rw [hx.1, Rows.uptoBulk, e, bulk_strs]
      omega
end
end Go.Proofs.YtedapgeabpadaaaDoor
