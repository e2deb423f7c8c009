/- Parts of the proof, joined: StrT, StrW. -/
import Derived.Test.YtedapgeabpadaaaDoorH6P19
import Derived.Test.YtedapgeabpadaaaDoorH6P15
import Derived.Deep.MidRow
/- Law 06's told: all packets that pieces tell, put again, and the code. -/
namespace Go.Proofs.YtedapgeabpadaaaDoor
set_option linter.unusedVariables false
open Go.RowKit Pl Go.Shelf Go.PlainAid

theorem split_room (most : Int) : ∀ (f : Nat) (s : ByteArray), (splitF most f s).1.length + (splitF most f s).2.1.size ≤ s.size := by
  intro f
  induction f with
  | zero => intro s; show 0 + s.size ≤ s.size; omega
  | succ f ih =>
    intro s
    by_cases h0 : s.size = 0
    · rw [split_end h0]; show 0 + s.size ≤ s.size; omega
    · unfold splitF
      rw [if_neg h0]
      split
      · show 0 + s.size ≤ s.size; omega
      · split
        · show 0 + s.size ≤ s.size; omega
        · rename_i hc2 hc0
          split
          · show 0 + s.size ≤ s.size; omega
          · split
            · show 0 + s.size ≤ s.size; omega
            · obtain ⟨⟨v, e, c⟩, hv⟩ : ∃ x, getV s 1 = x := ⟨_, rfl⟩
              rw [hv] at hc0
              have hc0 : c = 0 := Classical.byContradiction hc0
              subst hc0
              obtain ⟨m, k, rfl, rfl, k2, _, _, _⟩ := get1 (by omega) hv
              rw [hv]
              have i1 := ih (s.extract ((k : Int) + (m : Int)).toNat s.size)
              have hz : (s.extract ((k : Int) + (m : Int)).toNat s.size).size = s.size - (k + m) := by rw [ByteArray.size_extract]; omega
              simp only [List.length_cons]
              omega
theorem feed_room (most : Int) (x : ByteArray) : (feedL most x).length + (feedR most x).size ≤ x.size := by
  have h := split_room most x.size x
  have h2 := gets_len (sp most x).1
  unfold feedL feedR
  unfold sp at h2 ⊢
  split
  · show _ + 0 ≤ _; omega
  · omega
theorem gets_fits : ∀ (l : List ByteArray), ∀ p ∈ (getsP l).1, p.fits := by
  intro l
  induction l with
  | nil => intro p hp; simp [getsP] at hp
  | cons b r ih =>
    intro p hp
    unfold getsP at hp
    split at hp
    · simp at hp
    · rcases List.mem_cons.1 hp with rfl | hp
      · exact get_fits b
      · exact ih p hp
theorem feed_fits (most : Int) (x : ByteArray) : ∀ p ∈ feedL most x, p.fits := gets_fits _
/-- 'out = append(out, s)', for the walk. -/
theorem wpList_sstr {ops : Array Oper} {rest : List Oper} {o : Oper} {a : Act} {w : World} {Q : Exit → Act → World → Prop} (s x : Operand) (B : Nat) (v : Value) (L : List ByteArray) (t : ByteArray) (b : Nat)
    (hgd : o.guard = none) (ho : o.op = .call { callee := .builtin .append, args := #[s, x], argTypes := #[22, 22] })
    (hs : a.eval s = v) (hx : a.eval x = .slice (some ⟨b, 0, none⟩) 1 1) (h : Sl B w 9 1 v L.length (L.map Value.string)) (hb : Blk w b #[.string t] 9) (hB : B ≤ w.heap.size) (hl : L.length ≤ 1048576)
    (hK : ∀ v' w', Sl B w' 9 1 v' (L ++ [t]).length ((L ++ [t]).map Value.string) → w.grownBy w' v.ownBlock → (∀ k, v.ownBlock = some k → B ≤ k) → (v'.ownBlock = v.ownBlock ∨ v'.ownBlock = some w.heap.size) → wpList Tryd.prog ops Q rest (a.put o.dst v') w') :
    wpList Tryd.prog ops Q (o :: rest) a w := by
  obtain ⟨i0, hi, hz0, hz1, hz2⟩ := info_parts info_str
  refine wpList_append_sl s x 22 i0 _ _ b #[.string t] hgd ho Tryd.underlying22 hi hz0 hz1 hz2 rfl (by decide) rfl (fun u hu => by simp at hu; subst hu; rfl) hs hx h hb hB (by unfold maxLen; omega) (by omega) ?_
  intro v' w' r1 r2 r3
  refine hK v' w' (by rw [List.length_append, List.map_append]; exact r1) r2 (fun k hk => (h.lt k hk).1) r3
/-- A packet's cells loaded out of a row. -/
theorem wpList_load_pk {ops : Array Oper} {rest : List Oper} {op : Oper} {a : Act} {w : World} {Q : Exit → Act → World → Prop} (x : Operand) (b o : Nat) (p : Pk) (m : Hs) (hgd : op.guard = none) (ho : op.op = .load 45 x)
    (hx : a.eval x = .pointer (some ⟨b, o, none⟩)) (hc : w.rangeAt b o (pkA .u8 p m).toList) (h : wpList Tryd.prog ops Q rest (a.put op.dst (.agg (pkA .u8 p m))) w) : wpList Tryd.prog ops Q (op :: rest) a w :=
  wpList_load_mid hgd 45 x ho b o hx (pkA .u8 p m).toList _ hc Tryd.underlying45 rfl (by rw [gpk_size]; rfl) (by rw [Array.toArray_toList]; exact h)
theorem PksAt.at {B : Nat} {w : World} {A : Option Addr} {n cap : Nat} {L : List Pk} (h : PksAt B w (.slice A n cap) L) {j : Nat} {p : Pk} (hj : L[j]? = some p) : ∃ g o m, A = some ⟨g, o, none⟩ ∧ w.rangeAt g (o + j * 26) (pkA .u8 p m).toList ∧ PkO B w p m := by
  obtain ⟨ms, h1, h2, h3⟩ := h
  have hl := (List.getElem?_eq_some_iff.1 hj).1
  obtain ⟨g, o, cap', e, _, _, _, _, hcl⟩ := h2.at (by omega)
  injection e with e1 _ _
  obtain ⟨m, hm⟩ : ∃ m, ms[j]? = some m := ⟨_, List.getElem?_eq_getElem (by omega)⟩
  refine ⟨g, o, m, e1, fun i v hv => ?_, h3 j p m hj hm⟩
  rw [Nat.add_assoc]
  exact hcl _ _ (pks_cells hj hm i v (by simpa using hv))
theorem PksAt.form {B : Nat} {w : World} {v : Value} {L : List Pk} (h : PksAt B w v L) : ∃ A cap, v = .slice A L.length cap ∧ L.length ≤ cap ∧ cap ≤ maxLen := by
  obtain ⟨ms, h1, h2, h3⟩ := h
  obtain ⟨ao, cap, e, h4, h5, _⟩ := h2.form
  exact ⟨ao, cap, e, h4, h5⟩
theorem PksAt.keep {B : Nat} {w w' : World} {v : Value} {L : List Pk} (h : PksAt B w v L) (hk : ∀ k, B ≤ k → k < w.heap.size → w'.heap[k]? = w.heap[k]?) : PksAt B w' v L := by
  obtain ⟨ms, h1, h2, h3⟩ := h
  have sm : ∀ (e : TypeId) (size : Nat) u n xs, Sl B w e size u n xs → Sl B w' e size u n xs := fun e size u n xs s => s.same fun k k2 => hk k (s.lt k k2).1 (s.lt k k2).2
  exact ⟨ms, h1, sm _ _ _ _ _ h2, fun i p m a b => (h3 i p m a b).same fun e size u n xs s _ => sm e size u n xs s⟩
/-- The blocks from B1 tu B2 stand. -/
def Stand (B1 B2 : Nat) (w w' : World) : Prop := ∀ k, B1 ≤ k → k < B2 → w'.heap[k]? = w.heap[k]?
theorem Stand.below {B1 B2 : Nat} {a b c : World} (h : Stand B1 B2 a b) (k : Below b.heap.size b c) (hB : B2 ≤ b.heap.size) : Stand B1 B2 a c := fun i h1 h2 => (k.block i (by omega)).trans (h i h1 h2)
theorem Stand.grown {B1 B2 : Nat} {a b c : World} {row : Option Nat} (h : Stand B1 B2 a b) (k : b.grownBy c row) (hB : B2 ≤ b.heap.size) (hr : ∀ i, row = some i → i < B1 ∨ B2 ≤ i) : Stand B1 B2 a c := fun i h1 h2 =>
  (k.block i (by omega) (fun e => by have := hr i e.symm; omega)).trans (h i h1 h2)
def OutOf (B1 B2 : Nat) (v : Value) : Prop := ∀ k, v.ownBlock = some k → k < B1 ∨ B2 ≤ k
theorem told_nil (most : Int) (left : ByteArray) : toldP most left [] = ([], 0) := rfl
theorem told_stop {most : Int} {left s : ByteArray} {r : List ByteArray} (h : feedC most (left ++ s) ≠ 0) : toldP most left (s :: r) = ((feedL most (left ++ s)).map pkS, feedC most (left ++ s)) := by
  show (if feedC most (left ++ s) ≠ 0 then _ else _) = _
  rw [if_pos h]
theorem told_go {most : Int} {left s : ByteArray} {r : List ByteArray} (h : feedC most (left ++ s) = 0) : toldP most left (s :: r) = ((feedL most (left ++ s)).map pkS ++ (toldP most (feedR most (left ++ s)) r).1, (toldP most (feedR most (left ++ s)) r).2) := by
  show (if feedC most (left ++ s) ≠ 0 then _ else _) = _
  rw [if_neg (fun c => c h)]
theorem Sl.mod1 {B n size R : Nat} {w w' : World} {e T : TypeId} {v : Value} {xs : List Value} {cs : Array Value} (h : Sl B w e size v n xs) (hb : Blk w R cs T) (hT : T ≠ e) (m : Mod (· = R) w w') : Sl B w' e size v n xs := h.one_mod hb hT m
set_option maxRecDepth 100000 in
set_option maxHeartbeats 8000000 in
theorem stold_any (a : Option Addr) (cap : Nat) (ps : List ByteArray) (most : Int) (w : World) (hp : VRow w a (ps.map Value.string)) (hc : ps.length ≤ cap) (hn : ps.length ≤ 1048576) (h0 : -9223372036854775808 ≤ most) (h1 : most ≤ 9223372036854775807) (hz : (catB ps).size ≤ 1048576) (hT : Tabs w) :
    Calls Tryd.prog 13 #[.slice a ps.length cap, .int .i64 most] w fun e w' => ∃ v, e = .returned (.tuple #[v, .int .u8 (toldP most ⟨#[]⟩ ps).2]) ∧ Sl w.heap.size w' 9 1 v (toldP most ⟨#[]⟩ ps).1.length ((toldP most ⟨#[]⟩ ps).1.map Value.string) ∧ Below w.heap.size w w' := by
  have HP := Lib.hid hp
  have HT := Lib.hid hT
  have HZ0 := Lib.hid hz
  clear hp hT hz
  go_enter Tryd.func13, Tryd.ntmps13
  go_wp2_with fail
  refine (snew_any most _).mono ?_
  rintro e w0 ⟨rfl, hb0, b0⟩
  have HB0 := Lib.hid hb0
  have HL0 := Lib.hid b0
  clear hb0 b0
  go_wp2_with fail
  go_loopw [7, 20] (fun ov iv wr => ∃ (i : Nat) (left : ByteArray) (acc : List ByteArray), iv = .int .i64 i ∧ i ≤ ps.length ∧ Hid (Sl w.heap.size wr 9 1 ov acc.length (acc.map Value.string)) ∧ Hid (Blk wr w.heap.size (srA most left 0) 72) ∧ Hid (toldP most ⟨#[]⟩ ps = (acc ++ (toldP most left (ps.drop i)).1, (toldP most left (ps.drop i)).2)) ∧ Hid (acc.length + left.size + (catB (ps.drop i)).size ≤ 1048576) ∧ Hid (Below w.heap.size w wr)) (fun _ iv _ => ((ps.length : Int) - intOf iv).toNat)
  case atStart => exact ⟨0, ⟨#[]⟩, [], rfl, Nat.zero_le _, Lib.hid (Sl.nil _ _ _ _), HB0, Lib.hid rfl, Lib.hid (by have := HZ0.out; show 0 + 0 + _ ≤ _; rw [List.drop_zero]; omega), HL0⟩
  case round =>
    obtain ⟨i, left, acc, rfl, hi, hS, hR, hE, hY, hB⟩ := hrel
    by_cases hil : i < ps.length
    · obtain ⟨s, hsi⟩ : ∃ s, ps[i]? = some s := ⟨_, List.getElem?_eq_getElem hil⟩
      obtain ⟨b, o, rfl, hlt, hcl⟩ := HP.out (by rw [List.length_map]; omega)
      have hcell : wr.cell? ⟨b, o + i, none⟩ = some (.string s) := (hB.out.cell (p := ⟨b, o + i, none⟩) hlt).trans (hcl i _ (by rw [List.getElem?_map, hsi]; rfl))
      have hdr : ps.drop i = s :: ps.drop (i + 1) := by
        rw [List.drop_eq_getElem_cons hil]
        congr 1
        exact (List.getElem?_eq_some_iff.1 hsi).2
      have hsz : acc.length + left.size + (s.size + (catB (ps.drop (i + 1))).size) ≤ 1048576 := by
        have := hY.out
        rw [hdr, show catB (s :: ps.drop (i + 1)) = s ++ catB (ps.drop (i + 1)) from rfl, ByteArray.size_append] at this
        exact this
      have HTr := Lib.hid (HT.out.below hB.out)
      have CF := Lib.hid (sfeed_any w.heap.size most left s wr hR.out h0 h1 (by omega) HTr.out)
      have hroom := feed_room most (left ++ s)
      rw [ByteArray.size_append] at hroom
      have HDR := Lib.hid hdr
      have HSZ := Lib.hid hsz
      have HRM := Lib.hid hroom
      have HFT := Lib.hid (feed_fits most (left ++ s))
      have iI : (i : Int) < (ps.length : Int) := by omega
      clear hsi hcl hdr hsz hroom hY hlt hil
      go_wp2_with fail
      refine CF.out.mono ?_
      rintro e w1 ⟨v, rfl, hpk, hbk, hmod⟩
      have HE2 : Hid (∀ c, feedC most (left ++ s) = c → if c ≠ 0 then toldP most ⟨#[]⟩ ps = (acc ++ (feedL most (left ++ s)).map pkS, c) else toldP most ⟨#[]⟩ ps = ((acc ++ (feedL most (left ++ s)).map pkS) ++ (toldP most (feedR most (left ++ s)) (ps.drop (i + 1))).1, (toldP most (feedR most (left ++ s)) (ps.drop (i + 1))).2)) := Lib.hid (by
        intro c hc
        have := hE.out
        rw [HDR.out] at this
        split
        · rename_i hcc
          rw [told_stop (by rw [hc]; exact hcc), hc] at this
          exact this
        · rename_i hcc
          rw [told_go (by rw [hc]; exact Classical.byContradiction hcc)] at this
          rw [this, List.append_assoc])
      obtain ⟨L, hL⟩ : ∃ L, feedL most (left ++ s) = L := ⟨_, rfl⟩
      obtain ⟨c, hcc⟩ : ∃ c, feedC most (left ++ s) = c := ⟨_, rfl⟩
      obtain ⟨left2, hl2⟩ : ∃ x, feedR most (left ++ s) = x := ⟨_, rfl⟩
      have he3 := HE2.out c hcc
      have hrm := HRM.out
      have hft := HFT.out
      rw [hL, hl2] at he3 hrm
      rw [hL] at hpk hft
      rw [hcc, hl2] at hbk
      rw [hcc]
      have hSw := hS.out.mod1 hR.out (by decide) hmod
      have hlow : ∀ k, u7.ownBlock = some k → k < wr.heap.size := fun k hk => (hS.out.lt k hk).2
      have hB1 : Below w.heap.size w w1 := hB.out.trans (hmod.below hB.out.size (fun k hk => by subst hk; exact Nat.le_refl _))
      have hwr1 : wr.heap.size ≤ w1.heap.size := hmod.size
      have hwwr : w.heap.size ≤ wr.heap.size := hB.out.size
      obtain ⟨A2, cap2, rfl, hc2, hcm2⟩ := hpk.form
      obtain ⟨B1, hB1d⟩ : ∃ x, wr.heap.size = x := ⟨_, rfl⟩
      rw [hB1d] at hlow hpk hwr1 hwwr
      have HPK := Lib.hid hpk
      have HBK := Lib.hid hbk
      have HSW := Lib.hid hSw
      have HLO : Hid (OutOf B1 w1.heap.size u7) := Lib.hid (fun k hk => .inl (hlow k hk))
      have HBW := Lib.hid hB1
      have HRM2 := Lib.hid hrm
      have HFT2 := Lib.hid hft
      have HE3 := Lib.hid he3
      have HST : Hid (Stand B1 w1.heap.size w1 w1) := Lib.hid (fun k _ _ => rfl)
      have HB12 := Lib.hid (And.intro hwr1 hwwr)
      have hL20 : L.length ≤ 1048576 := by have := HSZ.out; omega
      have haL : acc.length + L.length ≤ 1048576 := by have := HSZ.out; omega
      clear hL hcc hl2 hpk hbk hSw hlow hB1 hrm hft he3 HE2 HRM HFT hmod hS hR hE hB HTr CF hcell hB1d hwr1 hwwr
      go_wp2_with fail
      go_loopw [7, 32] (fun ov2 jv wq => ∃ (j : Nat), jv = .int .i64 j ∧ j ≤ L.length ∧ Hid (Sl w.heap.size wq 9 1 ov2 (acc ++ (L.take j).map pkS).length ((acc ++ (L.take j).map pkS).map Value.string)) ∧ Hid (OutOf B1 w1.heap.size ov2) ∧ Hid (Stand B1 w1.heap.size w1 wq) ∧ Hid (Blk wq w.heap.size (srA most left2 c) 72) ∧ Hid (Below w.heap.size w wq) ∧ Hid (w1.heap.size ≤ wq.heap.size)) (fun _ jv _ => ((L.length : Int) - intOf jv).toNat)
      case atStart => exact ⟨0, rfl, Nat.zero_le _, Lib.hid (by rw [List.take_zero, List.map_nil, List.append_nil]; exact HSW.out), HLO, HST, HBK, HBW, Lib.hid (Nat.le_refl _)⟩
      case round =>
        obtain ⟨j, rfl, hj, hS, hO, hST, hR, hB, hQ⟩ := hrel
        by_cases hjl : j < L.length
        · obtain ⟨p, hpj⟩ : ∃ p, L[j]? = some p := ⟨_, List.getElem?_eq_getElem hjl⟩
          obtain ⟨g, o2, m, e1, hrange, hpo⟩ := (HPK.out.keep hST.out).at hpj
          subst e1
          have hfp := HFT2.out p (List.mem_of_getElem? hpj)
          have htk : (acc ++ (L.take (j + 1)).map pkS) = (acc ++ (L.take j).map pkS) ++ [pkS p] := by
            rw [List.take_add_one, hpj, List.map_append, List.append_assoc]
            rfl
          have hln : (acc ++ (L.take j).map pkS).length ≤ 1048576 := by rw [List.length_append, List.length_map, List.length_take]; omega
          obtain ⟨Y, hY⟩ : ∃ Y, wr.alloc (.cells #[.int .i64 0, .bool false, .bool false, .int .i64 0, .int .i64 0, .string ⟨#[]⟩, .string ⟨#[]⟩, .int .u8 0, .slice none 0 0, .slice none 0 0, .string ⟨#[]⟩, .bool false, .int .i64 0, .bool false, .string ⟨#[]⟩, .string ⟨#[]⟩, .int .i64 0, .bool false, .slice none 0 0, .bool false, .bool false, .string ⟨#[]⟩, .string ⟨#[]⟩, .bool false, .slice none 0 0, .slice none 0 0] 45) = Y := ⟨_, rfl⟩
          have hy : Blk Y wr.heap.size #[.int .i64 0, .bool false, .bool false, .int .i64 0, .int .i64 0, .string ⟨#[]⟩, .string ⟨#[]⟩, .int .u8 0, .slice none 0 0, .slice none 0 0, .string ⟨#[]⟩, .bool false, .int .i64 0, .bool false, .string ⟨#[]⟩, .string ⟨#[]⟩, .int .i64 0, .bool false, .slice none 0 0, .bool false, .bool false, .string ⟨#[]⟩, .string ⟨#[]⟩, .bool false, .slice none 0 0, .slice none 0 0] 45 := by rw [← hY]; exact Blk.new _ _ _
          have by_ : Below wr.heap.size wr Y := by rw [← hY]; exact (Below.refl _ _).alloc (Nat.le_refl _) _
          obtain ⟨Z, hZ⟩ : ∃ Z, Y.setRow wr.heap.size (pkA .u8 p m) = Z := ⟨_, rfl⟩
          have hz : Blk Z wr.heap.size (pkA .u8 p m) 45 := by rw [← hZ]; exact hy.row0 _
          have bz : Below wr.heap.size wr Z := by rw [← hZ]; exact below_setRow by_ (Nat.le_refl _) _
          have HY := Lib.hid hy
          have HZ := Lib.hid hz
          have HW : Hid (Blk (Y.setRow wr.heap.size (pkA .u8 p m)) wr.heap.size (pkA .u8 p m) 45) := Lib.hid (by rw [hZ]; exact hz)
          have HRG := Lib.hid hrange
          have HTZ := Lib.hid ((HT.out.below hB.out).below bz)
          have CP := Lib.hid (wput_any p m Z ((hpo.below bz).pkin hfp) HTZ.out)
          have HBZ := Lib.hid bz
          have HTK := Lib.hid htk
          have jI : (j : Int) < (L.length : Int) := by omega
          clear hpj hrange hpo hfp htk hy by_ hz bz hjl
          go_wp2_with (first | (refine wpList_load_pk (.tmp 34) g (o2 + j * 26) p m rfl rfl rfl HRG.out ?_) | (refine wpList_store_rowTo rfl 45 (.tmp 13) (.tmp 35) rfl rfl wr.heap.size (pkA .u8 p m) rfl rfl 45 #[.int .i64 0, .bool false, .bool false, .int .i64 0, .int .i64 0, .string ⟨#[]⟩, .string ⟨#[]⟩, .int .u8 0, .slice none 0 0, .slice none 0 0, .string ⟨#[]⟩, .bool false, .int .i64 0, .bool false, .string ⟨#[]⟩, .string ⟨#[]⟩, .int .i64 0, .bool false, .slice none 0 0, .bool false, .bool false, .string ⟨#[]⟩, .string ⟨#[]⟩, .bool false, .slice none 0 0, .slice none 0 0] HY.out gpk_size rfl (pkA_one _ _) ?_) | (refine wpList_load_row rfl 45 (.tmp 13) rfl wr.heap.size rfl 45 (pkA .u8 p m) (0, 0) _ HZ.out Tryd.underlying45 rfl gpk_size ?_) | (refine wpList_load_row rfl 45 (.tmp 13) rfl wr.heap.size rfl 45 (pkA .u8 p m) (0, 0) _ HW.out Tryd.underlying45 rfl gpk_size ?_) | (fail))
          refine CP.out.mono ?_
          rintro e V ⟨rfl, bv⟩
          obtain ⟨U, hU⟩ : ∃ U, V.alloc (.cells #[.string (pkS p)] 9) = U := ⟨_, rfl⟩
          have hub : Blk U V.heap.size #[.string (pkS p)] 9 := by rw [← hU]; exact Blk.new _ _ _
          have bu : Below V.heap.size V U := by rw [← hU]; exact (Below.refl _ _).alloc (Nat.le_refl _) _
          have bqu : Below wr.heap.size wr U := (HBZ.out.trans (bv.mono HBZ.out.size)).trans (bu.mono (Nat.le_trans HBZ.out.size bv.size))
          have hSU := hS.out.below bqu
          have hRU := hR.out.of_below bqu
          have hBU : Below w.heap.size w U := hB.out.trans (bqu.mono hB.out.size)
          have hSTU := hST.out.below bqu hQ.out
          have hQU : w1.heap.size ≤ U.heap.size := Nat.le_trans hQ.out bqu.size
          have HUB := Lib.hid hub
          have HSU := Lib.hid hSU
          have HRU := Lib.hid hRU
          have HBU := Lib.hid hBU
          have HSTU := Lib.hid hSTU
          have HQU := Lib.hid hQU
          have hBu : w.heap.size ≤ U.heap.size := hBU.size
          clear hub bu bqu hSU hRU hBU hSTU hQU bv hS hR hB hST hQ HY HZ HW HRG HTZ CP HBZ
          go_wp2_with (first | (refine wpList_sstr (.tmp 41) (.tmp 43) w.heap.size _ (acc ++ (L.take j).map pkS) (pkS p) V.heap.size rfl rfl rfl rfl HSU.out HUB.out hBu hln ?_; intro ov3 wf hpf hgf hof hor) | (fail))
          have hRF : Blk wf w.heap.size (srA most left2 c) 72 := (hgf.block _ HRU.out.lt (fun e => HSU.out.ne HRU.out (by decide) e.symm)).trans HRU.out
          have hbf : Below w.heap.size w wf := HBU.out.grown hgf hBu (fun k hk => hof k hk)
          have hsf := HSTU.out.grown hgf HQU.out (fun k hk => hO.out k hk)
          have hqf : w1.heap.size ≤ wf.heap.size := Nat.le_trans HQU.out hgf.size
          have hoo : OutOf B1 w1.heap.size ov3 := fun k hk => by
            rcases hor with c | c
            · exact hO.out k (c ▸ hk)
            · rw [c] at hk
              cases hk
              exact .inr HQU.out
          rw [← HTK.out] at hpf
          have HPF := Lib.hid hpf
          have HRF := Lib.hid hRF
          have HBF := Lib.hid hbf
          have HSF := Lib.hid hsf
          have HQF := Lib.hid hqf
          have HOF := Lib.hid hoo
          clear hRF hbf hsf hqf hoo hpf hgf hof hor HUB HSU HRU HBU HSTU HQU hBu HTK hU hO hln
          go_wp2
          go_roundw
          case rel => exact ⟨j + 1, by go_num, by omega, HPF, HOF, HSF, HRF, HBF, HQF⟩
          case measure => simp [intOf]; omega
        · obtain rfl : j = L.length := by omega
          have hSl := hS.out
          rw [List.take_length] at hSl
          have HSl := Lib.hid hSl
          have hnn : ¬ ((L.length : Int) < (L.length : Int)) := by omega
          clear hSl hS
          by_cases hc0 : c = 0
          · subst hc0
            have he := HE3.out
            rw [if_neg (by decide)] at he
            have HEE := Lib.hid he
            have HYY : Hid ((acc ++ L.map pkS).length + left2.size + (catB (ps.drop (i + 1))).size ≤ 1048576) := Lib.hid (by
              rw [List.length_append, List.length_map]
              have := HSZ.out
              have := HRM2.out
              omega)
            clear he
            go_wp2
            go_roundw
            case rel => exact ⟨i + 1, left2, acc ++ L.map pkS, by go_num, by omega, HSl, hR, HEE, HYY, hB⟩
            case measure => simp [intOf]; omega
          · have z0 : (c == 0) = false := beq_eq_false_iff_ne.2 hc0
            have z1 : (c != 0) = true := by rw [bne, z0]; rfl
            have he := HE3.out
            rw [if_pos hc0] at he
            have HEE := Lib.hid he
            clear hc0 he
            go_wp2
            go_ret2
            rw [HEE.out]
            exact ⟨_, rfl, HSl.out, hB.out⟩
    · obtain rfl : i = ps.length := by omega
      have hnn : ¬ ((ps.length : Int) < (ps.length : Int)) := by omega
      have he := hE.out
      rw [List.drop_length, told_nil, List.append_nil] at he
      have HEE := Lib.hid he
      clear he
      go_wp2
      go_ret2
      rw [HEE.out]
      exact ⟨_, rfl, hS.out, hB.out⟩
end Go.Proofs.YtedapgeabpadaaaDoor

/- Law 06's wakes. -/
set_option linter.unusedVariables false
namespace Go.Proofs.YtedapgeabpadaaaDoor
open Go.RowKit Pl Go.Shelf Go.PlainAid

def pk12 : Pk := { zPk with kind := 12 }
theorem wk_1 : feedL 100 (⟨#[]⟩ ++ ⟨#[192]⟩) = [] ∧ feedC 100 (⟨#[]⟩ ++ ⟨#[192]⟩) = 0 ∧ feedR 100 (⟨#[]⟩ ++ ⟨#[192]⟩) = ⟨#[192]⟩ := ⟨by kernel_rfl, by kernel_rfl, by kernel_rfl⟩
theorem wk_2 : feedL 100 (⟨#[192]⟩ ++ ⟨#[0, 192, 0]⟩) = [pk12, pk12] ∧ feedC 100 (⟨#[192]⟩ ++ ⟨#[0, 192, 0]⟩) = 0 := ⟨by kernel_rfl, by kernel_rfl⟩
set_option maxRecDepth 100000 in
set_option maxHeartbeats 4000000 in
theorem swakes_any (w : World) (hT : Tabs w) : Calls Tryd.prog 8 #[] w fun e w' => e = .returned (.bool true) ∧ Below w.heap.size w w' := by
  have HT := Lib.hid hT
  have HN := Lib.hid (NoTab.new hT (Nat.le_refl w.heap.size))
  clear hT
  go_enter Tryd.func8, Tryd.ntmps8
  go_wp2_with fail
  refine (snew_any 100 _).mono ?_
  rintro e w1 ⟨rfl, hb1, b1⟩
  have HB1 := Lib.hid hb1
  have BB1 := Lib.hid b1
  have HT1 := Lib.hid (HT.out.below b1)
  clear hb1 b1
  go_wp2_with fail
  refine (sfeed_any w.heap.size 100 ⟨#[]⟩ ⟨#[192]⟩ w1 HB1.out (by decide) (by decide) (by decide) HT1.out).mono ?_
  rintro e w2 ⟨v2, rfl, p2, hb2, m2⟩
  rw [wk_1.1] at p2
  rw [wk_1.2.1, wk_1.2.2] at hb2
  rw [wk_1.2.1]
  obtain ⟨A2, cap2, rfl, -, -⟩ := p2.form
  have HB2 := Lib.hid hb2
  have BB2 := Lib.hid (BB1.out.trans (m2.below BB1.out.size (fun k hk => by subst hk; exact Nat.le_refl _)))
  have HT2 := Lib.hid (tabs_mod HT1.out m2 HN.out)
  clear p2 hb2 m2
  simp only [List.length_nil]
  go_wp2_with fail
  refine (sleft_any w.heap.size 100 ⟨#[192]⟩ 0 w2 HB2.out).mono ?_
  rintro e w3 ⟨rfl, b3⟩
  have HB3 := Lib.hid (HB2.out.of_below b3)
  have BB3 := Lib.hid (BB2.out.trans (b3.mono BB2.out.size))
  have HT3 := Lib.hid (HT2.out.below b3)
  clear b3
  go_wp2_with fail
  refine (sfeed_any w.heap.size 100 ⟨#[192]⟩ ⟨#[0, 192, 0]⟩ w3 HB3.out (by decide) (by decide) (by decide) HT3.out).mono ?_
  rintro e w4 ⟨v4, rfl, p4, hb4, m4⟩
  rw [wk_2.1] at p4
  rw [wk_2.2]
  obtain ⟨A4, cap4, rfl, hc4, -⟩ := p4.form
  obtain ⟨g, o, m, rfl, hr, -⟩ := p4.at (j := 1) (p := pk12) rfl
  have x0 : w4.cell? ⟨g, o + 1 * 26 + 0, none⟩ = some (.int .i64 12) := hr 0 _ rfl
  have x0 : w4.cell? ⟨g, o + 26, none⟩ = some (.int .i64 12) := x0
  have BB4 := Lib.hid (BB3.out.trans (m4.below BB3.out.size (fun k hk => by subst hk; exact Nat.le_refl _)))
  simp only [List.length_cons, List.length_nil, Nat.zero_add, Nat.reduceAdd] at hc4 ⊢
  have hc4 : (2 : Int) ≤ (cap4 : Int) := by omega
  clear p4 hr hb4 m4
  go_wp2
  go_ret
  exact ⟨rfl, BB4.out⟩
end Go.Proofs.YtedapgeabpadaaaDoor
