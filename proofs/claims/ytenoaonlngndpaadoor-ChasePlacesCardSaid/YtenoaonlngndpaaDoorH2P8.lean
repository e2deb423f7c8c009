/- Parts of the proof, joined: CharAny, RefFault, TopicRef, TopicRef2, RefName, RefMatch, RemapRef, DGood. -/
import Derived.Test.YtenoaonlngndpaaDoorH2P7
import Derived.Test.YtenoaonlngndpaaDoorH2P2
import Derived.Deep.QuietTactic
import Derived.BigQuiet
import Derived.Test.YtenoaonlngndpaaDoorH2P4
/- The contract of the document's Char: nx. -/
namespace Go.Proofs.YtenoaonlngndpaaDoor
open Go.RowKit Pl Go.Shelf
open Go.PlainAid (bt bt_nonneg bt_le get_bt bt_end)

theorem nx_rest {s : ByteArray} {a : Nat} (h : ¬ (1 ≤ bt s a ∧ bt s a ≤ 127)) : nx s a =
    if 194 ≤ bt s a ∧ bt s a ≤ 223 ∧ tl s (a + 1) 128 191 = true then 2
    else if 224 ≤ bt s a ∧ bt s a ≤ 239 ∧ tl s (a + 1) 128 191 = true ∧ tl s (a + 2) 128 191 = true then
      (if (bt s a = 224 ∧ tl s (a + 1) 160 191 = false) ∨ (bt s a = 237 ∧ tl s (a + 1) 128 159 = false) then 0 else 3)
    else if 240 ≤ bt s a ∧ bt s a ≤ 244 ∧ tl s (a + 1) 128 191 = true ∧ tl s (a + 2) 128 191 = true ∧ tl s (a + 3) 128 191 = true then
      (if (bt s a = 240 ∧ tl s (a + 1) 144 191 = false) ∨ (bt s a = 244 ∧ tl s (a + 1) 128 143 = false) then 0 else 4)
    else 0 := by unfold nx; rw [if_neg h]

theorem char_any (s : ByteArray) (a : Nat) (ha : a < s.size) (w : World) (hs : s.size ≤ 281474976710656) :
    Calls Tryd.prog 70 #[.string s, .int .i64 a] w fun e w' => e = .returned (.int .i64 (nx s a)) ∧ w = w' := by
  have hb0 := bt_nonneg s a
  have hb1 := bt_le s a
  have key : ∀ n : Nat, nx s a = n → (Calls Tryd.prog 70 #[.string s, .int .i64 a] w fun e w' => e = .returned (.int .i64 (n : Int)) ∧ w = w') → Calls Tryd.prog 70 #[.string s, .int .i64 a] w fun e w' => e = .returned (.int .i64 (nx s a)) ∧ w = w' := by
    intro n h hc
    rw [h]
    exact hc
  by_cases c1 : 1 ≤ bt s a ∧ bt s a ≤ 127
  · exact key 1 (by unfold nx; rw [if_pos c1]) (char_1 s a ha w hs c1.1 c1.2)
  · have u1 := nx_rest c1
    by_cases c0 : bt s a = 0
    · exact key 0 (by rw [u1, if_neg (by omega), if_neg (by omega), if_neg (by omega)]) (char_0a s a ha w hs c0)
    · by_cases cb : bt s a ≤ 193
      · exact key 0 (by rw [u1, if_neg (by omega), if_neg (by omega), if_neg (by omega)]) (char_0b s a ha w hs (by omega) cb)
      · by_cases cc : 245 ≤ bt s a
        · exact key 0 (by rw [u1, if_neg (by omega), if_neg (by omega), if_neg (by omega)]) (char_0c s a ha w hs cc)
        · by_cases c2 : bt s a ≤ 223
          · cases t1 : tl s (a + 1) 128 191
            · exact key 0 (by rw [u1, if_neg (by rw [t1]; simp), if_neg (by omega), if_neg (by omega)]) (char_2n s a ha w hs (by omega) c2 t1)
            · exact key 2 (by rw [u1, if_pos ⟨by omega, c2, t1⟩]) (char_2 s a ha w hs (by omega) c2 t1)
          · have u2 := u1
            rw [if_neg (show ¬ (194 ≤ bt s a ∧ bt s a ≤ 223 ∧ tl s (a + 1) 128 191 = true) by omega)] at u2
            by_cases c3 : bt s a ≤ 239
            · rw [if_neg (show ¬ (240 ≤ bt s a ∧ bt s a ≤ 244 ∧ tl s (a + 1) 128 191 = true ∧ tl s (a + 2) 128 191 = true ∧ tl s (a + 3) 128 191 = true) by omega)] at u2
              cases t1 : tl s (a + 1) 128 191
              · exact key 0 (by rw [u2, if_neg (by rw [t1]; simp)]) (char_3n1 s a ha w hs (by omega) c3 t1)
              · cases t2 : tl s (a + 2) 128 191
                · exact key 0 (by rw [u2, if_neg (by rw [t2]; simp)]) (char_3n2 s a ha w hs (by omega) c3 t1 t2)
                · rw [if_pos ⟨by omega, c3, t1, t2⟩] at u2
                  by_cases e1 : bt s a = 224
                  · cases t4 : tl s (a + 1) 160 191
                    · exact key 0 (by rw [u2, if_pos (.inl ⟨e1, t4⟩)]) (char_3_224_false s a ha w hs (by omega) c3 t1 t2 e1 t4)
                    · exact key 3 (by rw [u2, if_neg (by rw [t4]; rintro (⟨_, h⟩ | ⟨h, _⟩); exact absurd h (by simp); omega)]) (char_3_224_true s a ha w hs (by omega) c3 t1 t2 e1 t4)
                  · by_cases e2 : bt s a = 237
                    · cases t4 : tl s (a + 1) 128 159
                      · exact key 0 (by rw [u2, if_pos (.inr ⟨e2, t4⟩)]) (char_3_237_false s a ha w hs (by omega) c3 t1 t2 e2 t4)
                      · exact key 3 (by rw [u2, if_neg (by rw [t4]; rintro (⟨h, _⟩ | ⟨_, h⟩); omega; exact absurd h (by simp))]) (char_3_237_true s a ha w hs (by omega) c3 t1 t2 e2 t4)
                    · exact key 3 (by rw [u2, if_neg (by rintro (⟨h, _⟩ | ⟨h, _⟩); exact e1 h; exact e2 h)]) (char_3 s a ha w hs (by omega) c3 t1 t2 (beq_eq_false_iff_ne.2 e1) (beq_eq_false_iff_ne.2 e2))
            · rw [if_neg (show ¬ (224 ≤ bt s a ∧ bt s a ≤ 239 ∧ tl s (a + 1) 128 191 = true ∧ tl s (a + 2) 128 191 = true) by omega)] at u2
              cases t1 : tl s (a + 1) 128 191
              · exact key 0 (by rw [u2, if_neg (by rw [t1]; simp)]) (char_4n1 s a ha w hs (by omega) (by omega) t1)
              · cases t2 : tl s (a + 2) 128 191
                · exact key 0 (by rw [u2, if_neg (by rw [t2]; simp)]) (char_4n2 s a ha w hs (by omega) (by omega) t1 t2)
                · cases t3 : tl s (a + 3) 128 191
                  · exact key 0 (by rw [u2, if_neg (by rw [t3]; simp)]) (char_4n3 s a ha w hs (by omega) (by omega) t1 t2 t3)
                  · rw [if_pos ⟨by omega, by omega, t1, t2, t3⟩] at u2
                    by_cases e1 : bt s a = 240
                    · cases t4 : tl s (a + 1) 144 191
                      · exact key 0 (by rw [u2, if_pos (.inl ⟨e1, t4⟩)]) (char_4_240_false s a ha w hs (by omega) (by omega) t1 t2 t3 e1 t4)
                      · exact key 4 (by rw [u2, if_neg (by rw [t4]; rintro (⟨_, h⟩ | ⟨h, _⟩); exact absurd h (by simp); omega)]) (char_4_240_true s a ha w hs (by omega) (by omega) t1 t2 t3 e1 t4)
                    · by_cases e2 : bt s a = 244
                      · cases t4 : tl s (a + 1) 128 143
                        · exact key 0 (by rw [u2, if_pos (.inr ⟨e2, t4⟩)]) (char_4_244_false s a ha w hs (by omega) (by omega) t1 t2 t3 e2 t4)
                        · exact key 4 (by rw [u2, if_neg (by rw [t4]; rintro (⟨h, _⟩ | ⟨_, h⟩); omega; exact absurd h (by simp))]) (char_4_244_true s a ha w hs (by omega) (by omega) t1 t2 t3 e2 t4)
                      · exact key 4 (by rw [u2, if_neg (by rintro (⟨h, _⟩ | ⟨h, _⟩); exact e1 h; exact e2 h)]) (char_4 s a ha w hs (by omega) (by omega) t1 t2 t3 (beq_eq_false_iff_ne.2 e1) (beq_eq_false_iff_ne.2 e2))
end Go.Proofs.YtenoaonlngndpaaDoor

/- The walks of the document's Fault. -/
namespace Go.Proofs.YtenoaonlngndpaaDoor
open Go.RowKit Pl Go.Shelf
open Go.PlainAid (bt bt_nonneg bt_le get_bt bt_end)

theorem reffault_any (s : ByteArray) (w : World) (hs : s.size ≤ 281474976710656) :
    Calls Tryd.prog 61 #[.string s] w fun e w' => e = .returned (.tuple #[.int .i64 (flt s s.size 0).1, .bool (flt s s.size 0).2]) ∧ w = w' := by
  go_enter Tryd.func61, Tryd.ntmps61
  go_wp2
  go_loop [4] (fun i => ∃ a f : Nat, i = .int .i64 a ∧ a ≤ s.size ∧ s.size ≤ a + f ∧ Hid (flt s s.size 0 = flt s f a)) (fun i => s.size - (intOf i).toNat)
  case atStart => exact ⟨0, s.size, rfl, by omega, by omega, rfl⟩
  case round =>
    obtain ⟨a, f, rfl, ha, hf, hv⟩ := hrel
    by_cases hlt : a < s.size
    · obtain ⟨n, hn⟩ : ∃ n, nx s a = n := ⟨_, rfl⟩
      have Hn := Lib.hid hn
      clear hn
      by_cases h0 : n = 0
      · have hr := Lib.hid (hv.out.trans (flt_bad hlt hf (Hn.out.trans h0)))
        subst h0
        go_wp2_with fail
        refine (char_any s a hlt _ hs).mono ?_
        rintro e w1 ⟨rfl, rfl⟩
        rw [Hn.out]
        go_wp2
        go_ret2
        exact ⟨ret2 (val_int (by rw [hr.out])) (val_bool (by rw [hr.out])), rfl⟩
      · have hne : ((n : Int) == 0) = false := by rw [beq_eq_false_iff_ne]; omega
        have hle : a + n ≤ s.size := by have := nx_le s a (by rw [Hn.out]; exact h0); rw [Hn.out] at this; exact this
        have hr := Lib.hid (hv.out.trans (flt_step hlt hf (by rw [Hn.out]; exact h0)))
        go_wp2_with fail
        refine (char_any s a hlt _ hs).mono ?_
        rintro e w1 ⟨rfl, rfl⟩
        rw [Hn.out]
        go_wp2
        go_round
        case rel => exact ⟨a + n, f - 1, by go_num, hle, by omega, by rw [hr.out, Hn.out]; exact Lib.hid rfl⟩
        case measure => simp [intOf]; omega
    · have hr := Lib.hid (hv.out.trans (flt_end (by omega)))
      go_wp2
      go_ret2
      exact ⟨ret2 (val_int (by rw [hr.out])) (val_bool (by rw [hr.out])), rfl⟩

end Go.Proofs.YtenoaonlngndpaaDoor

/- The walks of the document's has, Levels, sized (layer 7). -/
namespace Go.Proofs.YtenoaonlngndpaaDoor
set_option linter.unusedVariables false
open Go.RowKit Pl Go.Shelf

theorem Pl.has_drop {c b : UInt8} {l : Bs} {k : Nat} (h : l[k]? = some b) : has c (l.drop k) = (c == b || has c (l.drop (k + 1))) := by
  obtain ⟨hk, hx⟩ := List.getElem?_eq_some_iff.1 h
  rw [List.drop_eq_getElem_cons hk, hx]
  unfold has
  rw [List.elem_cons]
  cases c == b <;> rfl
theorem Pl.lev_drop {l : Bs} {k : Nat} {b : UInt8} (h : l[k]? = some b) : lev (l.drop k) = if b = 47 then [] :: lev (l.drop (k + 1)) else prep [b] (lev (l.drop (k + 1))) := by
  obtain ⟨hk, hx⟩ := List.getElem?_eq_some_iff.1 h
  rw [List.drop_eq_getElem_cons hk, hx]
  rfl
theorem data_at (s : ByteArray) {k : Nat} (h : k < s.size) : s.data.toList[k]? = some s[k] := Lib.data_getElem? s k h
theorem refhas_any (s : ByteArray) (c : UInt8) (x : Int) (hx : x = (c.toNat : Int)) (w : World) (hs : s.size ≤ 281474976710656) :
    Calls Tryd.prog 42 #[.string s, .int .u8 x] w fun e w' => e = .returned (.bool (has c s.data.toList)) ∧ w = w' := by
  have Hx := Lib.hid hx
  clear hx
  go_enter Tryd.func42, Tryd.ntmps42
  go_wp2
  go_loop [5] (fun i => ∃ k : Nat, i = .int .i64 k ∧ k ≤ s.size ∧ Hid (has c s.data.toList = has c (s.data.toList.drop k))) (fun i => s.size - (intOf i).toNat)
  case atStart => exact ⟨0, rfl, by omega, Lib.hid (by rw [List.drop_zero])⟩
  case round =>
    obtain ⟨k, rfl, hk, hv⟩ := hrel
    by_cases hlt : k < s.size
    · have hf := hv.out.trans (has_drop (data_at s hlt))
      obtain ⟨b, hb⟩ : ∃ b, s[k] = b := ⟨_, rfl⟩
      rw [hb] at hf
      by_cases he : c = b
      · have he2 : ((b.toNat : Int) == x) = true := by rw [beq_iff_eq, Hx.out, he]
        have he3 : (((s[k]).toNat : Int) == x) = true := by rw [hb]; exact he2
        have Hf := Lib.hid (show has c s.data.toList = true by rw [hf, he]; simp)
        clear hf he hb he2
        go_wp2
        go_ret
        exact ⟨ret_bool (by rw [Hf.out]), rfl⟩
      · have he2 : ((b.toNat : Int) == x) = false := by
          rw [beq_eq_false_iff_ne, Hx.out]
          intro h
          exact he (UInt8.toNat_inj.1 (by omega)).symm
        have he3 : (((s[k]).toNat : Int) == x) = false := by rw [hb]; exact he2
        have Hf := Lib.hid (show has c s.data.toList = has c (s.data.toList.drop (k + 1)) by rw [hf, beq_eq_false_iff_ne.2 he]; rfl)
        clear hf he hb he2
        go_wp2
        go_round
        case rel => exact ⟨k + 1, by go_num, by omega, Hf⟩
        case measure => simp [intOf]; omega
    · have Hf := Lib.hid (show has c s.data.toList = false by rw [hv.out, List.drop_eq_nil_of_le (by have : s.data.toList.length = s.size := rfl; omega)]; rfl)
      go_wp2
      go_ret
      exact ⟨ret_bool (by rw [Hf.out]), rfl⟩

/-- A slice of strings reads as a list (of one element at least). -/
def Row (w : World) (v : Value) (L : List Bs) : Prop :=
  ∃ g cap, v = .slice (some ⟨g, 0, none⟩) L.length cap ∧ L.length ≤ cap ∧ g < w.heap.size ∧ ∀ k x, L[k]? = some x → w.cell? ⟨g, k, none⟩ = some (strV x)
theorem Row.below {w w' : World} {v : Value} {L : List Bs} (h : Row w v L) (hb : Below w.heap.size w w') : Row w' v L := by
  obtain ⟨g, cap, rfl, hc, hg, hx⟩ := h
  exact ⟨g, cap, rfl, hc, Nat.lt_of_lt_of_le hg hb.size, fun k x h => (hb.cell (p := ⟨g, k, none⟩) hg).trans (hx k x h)⟩
theorem info_str : (Tryd.prog.info? 9).map (fun i => (i.zero, i.size, i.bytes)) = some (some (.string ⟨#[]⟩), 1, 16) := by kernel_rfl
theorem row_of_own {w : World} {base n : Nat} {e : TypeId} {v : Value} {L : List Bs} (h : w.ownsRow base e 1 v n (L.map strV)) (hn : n = L.length) (hp : 0 < n) : Row w v L := by
  subst hn
  rcases h.2 with ⟨_, h0⟩ | ⟨g, cap, cur, rfl, _, hh, hnc, _⟩
  · omega
  · exact ⟨g, cap, rfl, hnc, (h.lt g rfl).2, fun k x hx => by
      have hk := (List.getElem?_eq_some_iff.1 hx).1
      rw [h.cellAt k (by omega), List.getElem?_map, hx]; rfl⟩

set_option maxRecDepth 100000 in
set_option maxHeartbeats 400000 in
theorem reflevels_any (s : ByteArray) (w : World) (hs : s.size ≤ 4294967280) :
    Calls Tryd.prog 47 #[.string s] w fun e w' => ∃ v, e = .returned v ∧ Row w' v (lev s.data.toList) ∧ Below w.heap.size w w' := by
  obtain ⟨i0, hi, hz0, hz1, hz2⟩ := info_parts info_str
  go_enter Tryd.func47, Tryd.ntmps47
  go_wp2
  go_loopw [3, 4, 5] (fun a b i wr => ∃ (k : Nat) (o : List Bs) (x : ByteArray), i = .int .i64 k ∧ b = .string x ∧ k ≤ s.size ∧ o.length ≤ k ∧ x.size ≤ k ∧ wr.ownsRow w.heap.size 9 1 a o.length (o.map strV) ∧
      Hid (lev s.data.toList = o ++ prep x.data.toList (lev (s.data.toList.drop k))) ∧ Below w.heap.size w wr) (fun _ _ i _ => s.size - (intOf i).toNat)
  case atStart => exact ⟨0, [], ⟨#[]⟩, rfl, rfl, by omega, by simp, by decide, World.ownsRow_nil _ _ _ _, Lib.hid (by rw [List.drop_zero]; exact (prep_nil (lev_ne _)).symm), Below.refl _ _⟩
  case round =>
    obtain ⟨k, o, x, rfl, rfl, hk, ho, hxk, hown, hv, hbel⟩ := hrel
    have hbytes : (o.length + 1) * 16 ≤ 140737488355328 := by omega
    by_cases hlt : k < s.size
    · have hf := hv.out.trans (by rw [lev_drop (data_at s hlt)])
      have hd := data_at s hlt
      obtain ⟨b, hb⟩ : ∃ b, s[k] = b := ⟨_, rfl⟩
      rw [hb] at hf hd
      by_cases he : b = 47
      · have he3 : (((s[k]).toNat : Int) == 47) = true := by rw [hb, he]; rfl
        have Hf := Lib.hid (show lev s.data.toList = (o ++ [x.data.toList]) ++ prep [] (lev (s.data.toList.drop (k + 1))) by
          rw [hf, if_pos he, prep_nil (lev_ne _)]
          simp [prep])
        clear hf hd he hb
        go_wp2_with (at_builtin; refine wpList_push (.tmp 16) (.tmp 18) 44 9 i0 (.string ⟨#[]⟩) 16 rfl rfl Tryd.underlying44 hi hz0 hz1 hz2 rfl w.heap.size _ o.length (o.map strV) (.string x) rfl rfl hown hbel hbel.size rfl (by simp [maxLen]; omega) hbytes ?_; intro v' w1 hown1 hbel1 hs1 hn1)
        go_wp2
        go_roundw
        case rel => exact ⟨k + 1, o ++ [x.data.toList], ⟨#[]⟩, by go_num, rfl, by omega, by rw [List.length_append, List.length_singleton]; omega, Nat.zero_le _, by rw [List.length_append, List.map_append]; exact hown1, Hf, hbel1⟩
        case measure => simp [intOf]; omega
      · have he3 : (((s[k]).toNat : Int) == 47) = false := by
          rw [hb, beq_eq_false_iff_ne]
          intro h
          exact he (UInt8.toNat_inj.1 (by show b.toNat = 47; omega))
        have hx : (x ++ s.extract k (k + 1)).data.toList = x.data.toList ++ [b] := by
          rw [ByteArray.data_append, Array.toList_append, Lib.extract_data]
          congr 1
          rw [Nat.add_sub_cancel_left, List.take_one, List.head?_drop, hd]
          rfl
        have Hf := Lib.hid (show lev s.data.toList = o ++ prep (x ++ s.extract k (k + 1)).data.toList (lev (s.data.toList.drop (k + 1))) by
          rw [hf, if_neg he, prep_prep _ _ (lev_ne _), hx])
        clear hf hd he hb hx
        go_wp2
        go_roundw
        case rel => exact ⟨k + 1, o, x ++ s.extract k (k + 1), by go_num, rfl, by omega, by omega, by rw [ByteArray.size_append, ByteArray.size_extract]; omega, hown, Hf, hbel⟩
        case measure => simp [intOf]; omega
    · have Hf := Lib.hid (show lev s.data.toList = o ++ [x.data.toList] by
        rw [hv.out, List.drop_eq_nil_of_le (by have : s.data.toList.length = s.size := rfl; omega)]
        simp [lev, prep])
      go_wp2_with (at_builtin; refine wpList_push (.tmp 27) (.tmp 29) 44 9 i0 (.string ⟨#[]⟩) 16 rfl rfl Tryd.underlying44 hi hz0 hz1 hz2 rfl w.heap.size _ o.length (o.map strV) (.string x) rfl rfl hown hbel hbel.size rfl (by simp [maxLen]; omega) hbytes ?_; intro v' w1 hown1 hbel1 hs1 hn1)
      go_wp2
      go_ret
      refine ⟨_, rfl, ?_, hbel1⟩
      rw [Hf.out]
      exact row_of_own (n := o.length + 1) (by rw [List.map_append]; exact hown1) (by simp) (by omega)

theorem refsized_any (s : ByteArray) (w : World) (hs : s.size ≤ 281474976710656) :
    Calls Tryd.prog 41 #[.string s] w fun e w' => e = .returned (.bool (szd s)) ∧ Below w.heap.size w w' := by
  obtain ⟨fa, fb, hf⟩ : ∃ fa fb, flt s s.size 0 = (fa, fb) := ⟨_, _, rfl⟩
  have Hf := Lib.hid hf
  cases fb
  · by_cases h0 : s.size = 0
    · have hz := Lib.hid (show szd s = false by unfold szd; rw [hf]; simp [h0])
      have h0' : ((s.size : Int) == 0) = true := by rw [beq_iff_eq]; omega
      clear hf h0
      go_enter Tryd.func41, Tryd.ntmps41
      go_wp2_with fail
      refine (reffault_any s _ hs).mono ?_
      rintro e w1 ⟨rfl, rfl⟩
      rw [Hf.out]
      go_wp2
      go_ret
      exact ⟨ret_bool hz.out.symm, Below.refl _ _⟩
    · have hpos : 0 < s.size := by omega
      have h0' : ((s.size : Int) == 0) = false := by rw [beq_eq_false_iff_ne]; omega
      by_cases h256 : s.size ≤ 256
      · have hz := Lib.hid (show szd s = decide (((lev s.data.toList).length : Int) ≤ 32) by
          unfold szd
          rw [hf, decide_eq_true hpos, decide_eq_true h256]
          have : decide ((lev s.data.toList).length ≤ 32) = decide (((lev s.data.toList).length : Int) ≤ 32) := by congr 1; rw [eq_iff_iff]; omega
          rw [this]
          rfl)
        clear hf
        go_enter Tryd.func41, Tryd.ntmps41
        go_wp2_with fail
        refine (reffault_any s _ hs).mono ?_
        rintro e w1 ⟨rfl, rfl⟩
        rw [Hf.out]
        go_wp2_with fail
        refine (reflevels_any s _ (by omega)).mono ?_
        rintro e w2 ⟨v, rfl, ⟨g, cap, rfl, hcap, hg, hx⟩, b2⟩
        have Hx := Lib.hid hx
        clear hx
        go_wp2
        go_ret
        exact ⟨ret_bool hz.out.symm, b2⟩
      · have hz := Lib.hid (show szd s = false by unfold szd; rw [hf]; simp [h256])
        clear hf
        go_enter Tryd.func41, Tryd.ntmps41
        go_wp2_with fail
        refine (reffault_any s _ hs).mono ?_
        rintro e w1 ⟨rfl, rfl⟩
        rw [Hf.out]
        go_wp2
        go_ret
        exact ⟨ret_bool hz.out.symm, Below.refl _ _⟩
  · have hz := Lib.hid (show szd s = false by unfold szd; rw [hf]; simp)
    clear hf
    go_enter Tryd.func41, Tryd.ntmps41
    go_wp2_with fail
    refine (reffault_any s _ hs).mono ?_
    rintro e w1 ⟨rfl, rfl⟩
    rw [Hf.out]
    go_wp2
    go_ret
    exact ⟨ret_bool hz.out.symm, Below.refl _ _⟩

end Go.Proofs.YtenoaonlngndpaaDoor

/- The walk of the document's CheckFilter (layer 7). -/
namespace Go.Proofs.YtenoaonlngndpaaDoor
set_option linter.unusedVariables false
open Go.RowKit Pl Go.Shelf

theorem refcheckfilter_any (s : ByteArray) (w : World) (hs : s.size ≤ 281474976710656) :
    Calls Tryd.prog 46 #[.string s] w fun e w' => e = .returned (.int .i64 (filtC s)) ∧ Below w.heap.size w w' := by
  cases ha : szd s
  · have Hz := Lib.hid (filt_szd ha)
    have Ha := Lib.hid ha
    clear ha
    go_enter Tryd.func46, Tryd.ntmps46
    go_wp2_with fail
    refine (refsized_any s _ hs).mono ?_
    rintro e w1 ⟨rfl, b1⟩
    rw [Ha.out]
    go_wp2
    go_ret
    exact ⟨ret_int (by rw [Hz.out]), b1⟩
  · have hz := filt_lev ha
    have hsz := szd_size ha
    have hs256 := hsz.2.1
    have Ha := Lib.hid ha
    have hpos := lev_pos s.data.toList
    have hn32 : (lev s.data.toList).length ≤ 32 := hsz.2.2
    have Hz := Lib.hid hz
    clear ha hz hsz
    go_enter Tryd.func46, Tryd.ntmps46
    go_wp2_with fail
    refine (refsized_any s _ hs).mono ?_
    rintro e w1 ⟨rfl, b1⟩
    rw [Ha.out]
    go_wp2_with fail
    refine (reflevels_any s _ (by omega)).mono ?_
    rintro e w2 ⟨v, rfl, ⟨g, cap, rfl, hcap, hg, hx⟩, b2⟩
    have Hc := Lib.hid hx
    have b3 := b1.trans (b2.mono b1.size)
    clear hx
    have hS : ∀ (k : Nat) x, (lev s.data.toList)[k]? = some x → x.length ≤ s.size := fun k x hx => lev_get_size hx
    obtain ⟨L, hL⟩ : ∃ L, lev s.data.toList = L := ⟨_, rfl⟩
    rw [hL] at hS
    have HS := Lib.hid hS
    clear hS
    rw [hL] at Hc Hz hcap hpos hn32 ⊢
    clear hL
    obtain ⟨n, hn⟩ : ∃ n, L.length = n := ⟨_, rfl⟩
    rw [hn] at hpos hn32 hcap ⊢
    have Hn := Lib.hid hn
    clear hn
    go_wp2
    go_loop [5, 6, 7] (fun i _ _ => ∃ k : Nat, i = .int .i64 k ∧ k ≤ n ∧ Hid (fok L = fok (L.drop k))) (fun i _ _ => n - (intOf i).toNat)
    case atStart => exact ⟨0, rfl, by omega, Lib.hid (by rw [List.drop_zero])⟩
    case round =>
      obtain ⟨k, rfl, hk, hv⟩ := hrel
      by_cases hlt : k < n
      · obtain ⟨x, hx⟩ : ∃ x, L[k]? = some x := ⟨_, List.getElem?_eq_getElem (by rw [Hn.out]; exact hlt)⟩
        have hcell := Hc.out k x hx
        have hsz := HS.out k x hx
        have hf := hv.out.trans (fok_at hx)
        rw [Hn.out] at hf
        clear hx
        obtain ⟨y, hy⟩ : ∃ y : ByteArray, (⟨x.toArray⟩ : ByteArray) = y := ⟨_, rfl⟩
        have hyx : x = y.data.toList := by rw [← hy]
        have hcell' : w2.cell? ⟨g, k, none⟩ = some (.string y) := by rw [hcell, ← hy]; rfl
        clear hcell hy
        rw [hyx] at hf hsz
        clear hyx x
        have hy256 : y.size ≤ 281474976710656 := Nat.le_trans hsz (by omega)
        clear hsz
        have hN := fun c : UInt8 => show (y.toList == [c]) = (y.data.toList == [c]) by rw [ByteArray.toList_eq]
        cases h43 : has 43 y.data.toList
        · cases h35 : has 35 y.data.toList
          · skip
            rw [lv_f h43 h35, Bool.true_and] at hf
            have H35 := Lib.hid h35
            have H43 := Lib.hid h43
            have Hf := Lib.hid hf
            clear h35 h43 hf hN
            go_wp2_with fail
            refine (refhas_any y 43 43 rfl _ hy256).mono ?_
            rintro e w3 ⟨rfl, rfl⟩
            rw [H43.out]
            go_wp2_with fail
            refine (refhas_any y 35 35 rfl _ hy256).mono ?_
            rintro e w3 ⟨rfl, rfl⟩
            rw [H35.out]
            go_wp2
            go_round
            case rel => exact ⟨k + 1, by go_num, by omega, Hf⟩
            case measure => simp [intOf]; omega
          · cases h1 : y.data.toList == [35]
            · have e1 : (y.toList == [35]) = false := (hN 35).trans h1
              have e2 : (y.toList != [35]) = true := by unfold bne; rw [e1]; rfl
              rw [lv_g h35 h1, Bool.false_and] at hf
              clear h1
              have H35 := Lib.hid h35
              have H43 := Lib.hid h43
              have Hf := Lib.hid hf
              clear h35 h43 hf hN
              go_wp2_with fail
              refine (refhas_any y 43 43 rfl _ hy256).mono ?_
              rintro e w3 ⟨rfl, rfl⟩
              rw [H43.out]
              go_wp2_with fail
              refine (refhas_any y 35 35 rfl _ hy256).mono ?_
              rintro e w3 ⟨rfl, rfl⟩
              rw [H35.out]
              go_wp2
              go_ret
              exact ⟨ret_int (by rw [Hz.out, Hf.out]; rfl), b3⟩
            · have e1 : (y.toList == [35]) = true := (hN 35).trans h1
              have e2 : (y.toList != [35]) = false := by unfold bne; rw [e1]; rfl
              have hl : y.data.toList.length ≤ 1 := by rw [beq_iff_eq.1 h1]; exact Nat.le_refl _
              by_cases hlast : k + 1 < n
              · have hlt2 : (k : Int) < (n : Int) - 1 := by omega
                rw [lv_a h35 hlast, Bool.false_and] at hf
                clear h1 hl
                have H35 := Lib.hid h35
                have H43 := Lib.hid h43
                have Hf := Lib.hid hf
                clear h35 h43 hf hN
                go_wp2_with fail
                refine (refhas_any y 43 43 rfl _ hy256).mono ?_
                rintro e w3 ⟨rfl, rfl⟩
                rw [H43.out]
                go_wp2_with fail
                refine (refhas_any y 35 35 rfl _ hy256).mono ?_
                rintro e w3 ⟨rfl, rfl⟩
                rw [H35.out]
                go_wp2
                go_ret
                exact ⟨ret_int (by rw [Hz.out, Hf.out]; rfl), b3⟩
              · have hlt2 : ¬ (k : Int) < (n : Int) - 1 := by omega
                rw [lv_c h35 hl (by omega), Bool.true_and] at hf
                clear h1 hl
                have H35 := Lib.hid h35
                have H43 := Lib.hid h43
                have Hf := Lib.hid hf
                clear h35 h43 hf hN
                go_wp2_with fail
                refine (refhas_any y 43 43 rfl _ hy256).mono ?_
                rintro e w3 ⟨rfl, rfl⟩
                rw [H43.out]
                go_wp2_with fail
                refine (refhas_any y 35 35 rfl _ hy256).mono ?_
                rintro e w3 ⟨rfl, rfl⟩
                rw [H35.out]
                go_wp2
                go_round
                case rel => exact ⟨k + 1, by go_num, by omega, Hf⟩
                case measure => simp [intOf]; omega
        · cases h1 : y.data.toList == [43]
          · have e1 : (y.toList == [43]) = false := (hN 43).trans h1
            have e2 : (y.toList != [43]) = true := by unfold bne; rw [e1]; rfl
            obtain ⟨b35, h35⟩ : ∃ b, has 35 y.data.toList = b := ⟨_, rfl⟩
            rw [lv_h h43 h1, Bool.false_and] at hf
            clear h1
            have H35 := Lib.hid h35
            have H43 := Lib.hid h43
            have Hf := Lib.hid hf
            clear h35 h43 hf hN
            go_wp2_with fail
            refine (refhas_any y 43 43 rfl _ hy256).mono ?_
            rintro e w3 ⟨rfl, rfl⟩
            rw [H43.out]
            go_wp2_with fail
            refine (refhas_any y 35 35 rfl _ hy256).mono ?_
            rintro e w3 ⟨rfl, rfl⟩
            rw [H35.out]
            go_wp2
            go_ret
            exact ⟨ret_int (by rw [Hz.out, Hf.out]; rfl), b3⟩
          · have e1 : (y.toList == [43]) = true := (hN 43).trans h1
            have e2 : (y.toList != [43]) = false := by unfold bne; rw [e1]; rfl
            have h35 : has 35 y.data.toList = false := by rw [beq_iff_eq.1 h1]; decide
            have hl : y.data.toList.length ≤ 1 := by rw [beq_iff_eq.1 h1]; exact Nat.le_refl _
            rw [lv_e h43 hl, Bool.true_and] at hf
            clear h1 hl
            have H35 := Lib.hid h35
            have H43 := Lib.hid h43
            have Hf := Lib.hid hf
            clear h35 h43 hf hN
            go_wp2_with fail
            refine (refhas_any y 43 43 rfl _ hy256).mono ?_
            rintro e w3 ⟨rfl, rfl⟩
            rw [H43.out]
            go_wp2_with fail
            refine (refhas_any y 35 35 rfl _ hy256).mono ?_
            rintro e w3 ⟨rfl, rfl⟩
            rw [H35.out]
            go_wp2
            go_round
            case rel => exact ⟨k + 1, by go_num, by omega, Hf⟩
            case measure => simp [intOf]; omega
      · have hf := hv.out.trans (fok_end (by rw [Hn.out]; omega))
        have Hf := Lib.hid hf
        clear hf
        go_wp2
        go_ret
        exact ⟨ret_int (by rw [Hz.out, Hf.out]; rfl), b3⟩
end Go.Proofs.YtenoaonlngndpaaDoor

/- The walk of the document's CheckName (layer 7). -/
namespace Go.Proofs.YtenoaonlngndpaaDoor
set_option linter.unusedVariables false
open Go.RowKit Pl Go.Shelf

theorem refcheckname_any (s : ByteArray) (w : World) (hs : s.size ≤ 281474976710656) :
    Calls Tryd.prog 21 #[.string s] w fun e w' => e = .returned (.int .i64 (nameC s)) ∧ Below w.heap.size w w' := by
  obtain ⟨a, ha⟩ : ∃ a, szd s = a := ⟨_, rfl⟩
  obtain ⟨b, hb⟩ : ∃ b, has 43 s.data.toList = b := ⟨_, rfl⟩
  obtain ⟨c, hc⟩ : ∃ c, has 35 s.data.toList = c := ⟨_, rfl⟩
  have hz : nameC s = if a && (!b && !c) then 0 else 144 := by unfold nameC nameB; rw [ha, hb, hc]
  have Ha := Lib.hid ha
  have Hb := Lib.hid hb
  have Hc := Lib.hid hc
  have Hz := Lib.hid hz
  clear ha hb hc hz
  cases a <;> cases b <;> cases c
  all_goals
    go_enter Tryd.func21, Tryd.ntmps21
    go_wp2_with fail
    refine (refsized_any s _ hs).mono ?_
    rintro e w1 ⟨rfl, b1⟩
    rw [Ha.out]
    go_wp2_with fail
    refine (refhas_any s 43 43 rfl _ hs).mono ?_
    rintro e w2 ⟨rfl, rfl⟩
    rw [Hb.out]
    go_wp2_with fail
    refine (refhas_any s 35 35 rfl _ hs).mono ?_
    rintro e w2 ⟨rfl, rfl⟩
    rw [Hc.out]
    go_wp2
    go_ret
    exact ⟨ret_int (by rw [Hz.out]; rfl), b1⟩
end Go.Proofs.YtenoaonlngndpaaDoor

/- The walk of the document's Match (layer 7). -/
namespace Go.Proofs.YtenoaonlngndpaaDoor
set_option linter.unusedVariables false
open Go.RowKit Pl Go.Shelf

theorem refmatch_bad1 (F N : ByteArray) (w : World) (hF : F.size ≤ 281474976710656) (hN : N.size ≤ 281474976710656) (h : filtB F = false) :
    Calls Tryd.prog 29 #[.string F, .string N] w fun e w' => e = .returned (.bool (mtB F N)) ∧ Below w.heap.size w w' := by
  have H1 := Lib.hid (filtC_bad h)
  have Hr := Lib.hid (mt_filt (N := N) h)
  clear h
  go_enter Tryd.func29, Tryd.ntmps29
  go_wp2_with fail
  refine (refcheckfilter_any F _ hF).mono ?_
  rintro e w1 ⟨rfl, b1⟩
  rw [H1.out]
  go_wp2_with fail
  refine (refcheckname_any N _ hN).mono ?_
  rintro e w2 ⟨rfl, b2⟩
  go_wp2
  go_ret
  exact ⟨ret_bool Hr.out.symm, b1.trans (b2.mono b1.size)⟩
theorem refmatch_bad2 (F N : ByteArray) (w : World) (hF : F.size ≤ 281474976710656) (hN : N.size ≤ 281474976710656) (h1 : filtB F = true) (h2 : nameB N = false) :
    Calls Tryd.prog 29 #[.string F, .string N] w fun e w' => e = .returned (.bool (mtB F N)) ∧ Below w.heap.size w w' := by
  have H1 := Lib.hid (filtC_ok h1)
  have H2 := Lib.hid (nameC_bad h2)
  have Hr := Lib.hid (mt_name (F := F) h2)
  clear h1 h2
  go_enter Tryd.func29, Tryd.ntmps29
  go_wp2_with fail
  refine (refcheckfilter_any F _ hF).mono ?_
  rintro e w1 ⟨rfl, b1⟩
  rw [H1.out]
  go_wp2_with fail
  refine (refcheckname_any N _ hN).mono ?_
  rintro e w2 ⟨rfl, b2⟩
  rw [H2.out]
  go_wp2
  go_ret
  exact ⟨ret_bool Hr.out.symm, b1.trans (b2.mono b1.size)⟩
theorem refmatch_dol (F N : ByteArray) (w : World) (h1 : filtB F = true) (h2 : nameB N = true) (h3 : dol F.data.toList N.data.toList = true) :
    Calls Tryd.prog 29 #[.string F, .string N] w fun e w' => e = .returned (.bool (mtB F N)) ∧ Below w.heap.size w w' := by
  have H1 := Lib.hid (filtC_ok h1)
  have H2 := Lib.hid (nameC_ok h2)
  have Hr := Lib.hid (mt_dol h3)
  have sF := szd_size (filt_szd2 h1).1
  have sN := szd_size (name_szd h2)
  have hF0 := sF.1
  have hN0 := sN.1
  have hF1 := sF.2.1
  have hN1 := sN.2.1
  rw [dol_at F N hF0 hN0] at h3
  clear h1 h2 sF sN
  cases b1 : ((N[0].toNat : Int) == 36)
  · rw [b1] at h3; cases h3
  · cases b2 : ((F[0].toNat : Int) == 43)
    · cases b3 : ((F[0].toNat : Int) == 35)
      · rw [b1, b2, b3] at h3; cases h3
      · clear h3
        go_enter Tryd.func29, Tryd.ntmps29
        go_wp2_with fail
        refine (refcheckfilter_any F _ (by omega)).mono ?_
        rintro e w1 ⟨rfl, b1⟩
        rw [H1.out]
        go_wp2_with fail
        refine (refcheckname_any N _ (by omega)).mono ?_
        rintro e w2 ⟨rfl, b2⟩
        rw [H2.out]
        go_wp2
        go_ret
        exact ⟨ret_bool Hr.out.symm, b1.trans (b2.mono b1.size)⟩
    · clear h3
      go_enter Tryd.func29, Tryd.ntmps29
      go_wp2_with fail
      refine (refcheckfilter_any F _ (by omega)).mono ?_
      rintro e w1 ⟨rfl, b1⟩
      rw [H1.out]
      go_wp2_with fail
      refine (refcheckname_any N _ (by omega)).mono ?_
      rintro e w2 ⟨rfl, b2⟩
      rw [H2.out]
      go_wp2
      go_ret
      exact ⟨ret_bool Hr.out.symm, b1.trans (b2.mono b1.size)⟩

theorem Pl.mtL_hash {A B : List Bs} {k : Nat} {x : Bs} (h : A[k]? = some x) (hx : x = [35]) : mtL (A.drop k) B = true := by
  obtain ⟨hk, e⟩ := List.getElem?_eq_some_iff.1 h
  rw [List.drop_eq_getElem_cons hk, e]
  unfold mtL
  rw [if_pos hx]
theorem Pl.mtL_short {A B : List Bs} {k : Nat} {x : Bs} (h : A[k]? = some x) (hx : x ≠ [35]) (hb : B.length ≤ k) : mtL (A.drop k) (B.drop k) = false := by
  obtain ⟨hk, e⟩ := List.getElem?_eq_some_iff.1 h
  rw [List.drop_eq_getElem_cons hk, e, List.drop_eq_nil_of_le hb]
  unfold mtL
  rw [if_neg hx]
theorem Pl.mtL_step {A B : List Bs} {k : Nat} {x y : Bs} (h : A[k]? = some x) (h2 : B[k]? = some y) (hx : x ≠ [35]) : mtL (A.drop k) (B.drop k) = (one x y && mtL (A.drop (k + 1)) (B.drop (k + 1))) := by
  obtain ⟨hk, e⟩ := List.getElem?_eq_some_iff.1 h
  obtain ⟨hk2, e2⟩ := List.getElem?_eq_some_iff.1 h2
  rw [List.drop_eq_getElem_cons hk, e, List.drop_eq_getElem_cons hk2, e2, mtL_cons hx]
  rfl
theorem Pl.mtL_done {A B : List Bs} {k : Nat} (h : A.length = k) (hb : k ≤ B.length) : mtL (A.drop k) (B.drop k) = ((k : Int) == (B.length : Int)) := by
  rw [List.drop_eq_nil_of_le (by omega)]
  rw [Bool.eq_iff_iff, beq_iff_eq]
  cases hd : B.drop k with
  | nil =>
    have := List.drop_eq_nil_iff.1 hd
    simp [mtL]; omega
  | cons b r =>
    have : (B.drop k).length = r.length + 1 := by rw [hd]; rfl
    rw [List.length_drop] at this
    simp [mtL]; omega

set_option maxHeartbeats 1000000 in
theorem refmatch_ok (F N : ByteArray) (w : World) (h1 : filtB F = true) (h2 : nameB N = true) (h3 : dol F.data.toList N.data.toList = false) :
    Calls Tryd.prog 29 #[.string F, .string N] w fun e w' => e = .returned (.bool (mtB F N)) ∧ Below w.heap.size w w' := by
  have H1 := Lib.hid (filtC_ok h1)
  have H2 := Lib.hid (nameC_ok h2)
  have hr := mt_lev h1 h2 h3
  have sF := szd_size (filt_szd2 h1).1
  have sN := szd_size (name_szd h2)
  have hF0 := sF.1
  have hN0 := sN.1
  have hF1 := sF.2.1
  have hN1 := sN.2.1
  have nF := sF.2.2
  have nN := sN.2.2
  rw [dol_at F N hF0 hN0] at h3
  have hd : ((N[0].toNat : Int) == 36) = false ∨ (((N[0].toNat : Int) == 36) = true ∧ ((F[0].toNat : Int) == 43) = false ∧ ((F[0].toNat : Int) == 35) = false) := by
    revert h3
    cases ((N[0].toNat : Int) == 36) <;> cases ((F[0].toNat : Int) == 43) <;> cases ((F[0].toNat : Int) == 35) <;> decide
  have Hr := Lib.hid hr
  clear h1 h2 hr sF sN h3
  rcases hd with hd | ⟨hd, f1, f2⟩
  all_goals
    go_enter Tryd.func29, Tryd.ntmps29
    go_wp2_with fail
    refine (refcheckfilter_any F _ (by omega)).mono ?_
    rintro e w1 ⟨rfl, b1⟩
    rw [H1.out]
    go_wp2_with fail
    refine (refcheckname_any N _ (by omega)).mono ?_
    rintro e w2 ⟨rfl, b2⟩
    rw [H2.out]
    have b12 := b1.trans (b2.mono b1.size)
    go_wp2_with fail
    refine (reflevels_any F _ (by omega)).mono ?_
    rintro e w3 ⟨v3, rfl, ⟨g1, c1, rfl, hcap1, hg1, hc1⟩, b3⟩
    have Hc1 := Lib.hid hc1
    have b13 := b12.trans (b3.mono b12.size)
    clear hc1
    go_wp2_with fail
    refine (reflevels_any N _ (by omega)).mono ?_
    rintro e w4 ⟨v4, rfl, ⟨g2, c2, rfl, hcap2, hg2, hc2⟩, b4⟩
    have Hc2 := Lib.hid hc2
    have b14 := b13.trans (b4.mono b13.size)
    have Hd1 : Hid (∀ (k : Nat) x, (lev F.data.toList)[k]? = some x → w4.cell? ⟨g1, k, none⟩ = some (strV x)) := Lib.hid fun k x hx => (b4.cell (p := ⟨g1, k, none⟩) hg1).trans (Hc1.out k x hx)
    clear hc2 Hc1
    obtain ⟨A, hA⟩ : ∃ A, lev F.data.toList = A := ⟨_, rfl⟩
    obtain ⟨B, hB⟩ : ∃ B, lev N.data.toList = B := ⟨_, rfl⟩
    rw [hA] at Hd1 nF hcap1
    rw [hB] at Hc2 nN hcap2
    rw [hA, hB] at Hr ⊢
    clear hA hB
    obtain ⟨m, hm⟩ : ∃ m, A.length = m := ⟨_, rfl⟩
    obtain ⟨n, hn⟩ : ∃ n, B.length = n := ⟨_, rfl⟩
    rw [hm] at nF hcap1
    rw [hn] at nN hcap2
    rw [hm, hn]
    have Hm := Lib.hid hm
    have Hn := Lib.hid hn
    clear hm hn
    go_wp2
    go_loopw [9] (fun i wr => ∃ k : Nat, i = .int .i64 k ∧ k ≤ m ∧ k ≤ n ∧ Hid (mtL A B = mtL (A.drop k) (B.drop k)) ∧ Hid (∀ p, wr.cell? p = w4.cell? p) ∧ Below w.heap.size w wr) (fun i _ => m - (intOf i).toNat)
    case atStart => exact ⟨0, rfl, by omega, by omega, Lib.hid (by rw [List.drop_zero, List.drop_zero]), Lib.hid (fun _ => rfl), b14⟩
    case round =>
      obtain ⟨k, rfl, hk, hkn, hv, hcell, hbel⟩ := hrel
      by_cases hlt : k < m
      · obtain ⟨x, hx⟩ : ∃ x, A[k]? = some x := ⟨_, List.getElem?_eq_getElem (by rw [Hm.out]; exact hlt)⟩
        have hcx := (hcell.out _).trans (Hd1.out k x hx)
        obtain ⟨y, hy⟩ : ∃ y : ByteArray, (⟨x.toArray⟩ : ByteArray) = y := ⟨_, rfl⟩
        have hyx : x = y.data.toList := by rw [← hy]
        have hcy : wr.cell? ⟨g1, k, none⟩ = some (.string y) := by rw [hcx, ← hy]; rfl
        have hN35 : (y.toList == [35]) = (y.data.toList == [35]) := by rw [ByteArray.toList_eq]
        have hN43 : (y.toList == [43]) = (y.data.toList == [43]) := by rw [ByteArray.toList_eq]
        rw [hyx] at hx
        clear hcx hy hyx
        cases h35 : y.data.toList == [35]
        · have e35 : (y.toList == [35]) = false := hN35.trans h35
          have hne : y.data.toList ≠ [35] := beq_eq_false_iff_ne.1 h35
          by_cases hkn2 : k < n
          · have hge : ¬ (n : Int) ≤ k := by omega
            obtain ⟨z', hz⟩ : ∃ z, B[k]? = some z := ⟨_, List.getElem?_eq_getElem (by rw [Hn.out]; exact hkn2)⟩
            have hcz := (hcell.out _).trans (Hc2.out k z' hz)
            obtain ⟨z, hz'⟩ : ∃ z : ByteArray, (⟨z'.toArray⟩ : ByteArray) = z := ⟨_, rfl⟩
            have hzz : z' = z.data.toList := by rw [← hz']
            have hcz2 : wr.cell? ⟨g2, k, none⟩ = some (.string z) := by rw [hcz, ← hz']; rfl
            rw [hzz] at hz
            have hf := hv.out.trans (mtL_step hx hz hne)
            clear hcz hz' hzz hx hz
            cases h43 : y.data.toList == [43]
            · have e43 : (y.toList == [43]) = false := hN43.trans h43
              have e43' : (y.toList != [43]) = true := by unfold bne; rw [e43]; rfl
              cases hyz : y.data.toList == z.data.toList
              · have eyz : (y.toList == z.toList) = false := by rw [ByteArray.toList_eq, ByteArray.toList_eq]; exact hyz
                have eyz' : (y.toList != z.toList) = true := by unfold bne; rw [eyz]; rfl
                have Hf := Lib.hid (show mtL A B = false by rw [hf]; unfold one; rw [h43, hyz]; rfl)
                clear hf h43 hyz h35 hne hN35 hN43
                go_wp2
                go_quiet (fail)
                go_wp2
                go_ret
                exact ⟨ret_bool (by rw [Hr.out, Hf.out]), ⟨hbel.os, hbel.tape, hbel.output, hbel.size, hbel.block⟩⟩
              · have eyz : (y.toList == z.toList) = true := by rw [ByteArray.toList_eq, ByteArray.toList_eq]; exact hyz
                have eyz' : (y.toList != z.toList) = false := by unfold bne; rw [eyz]; rfl
                have Hf := Lib.hid (show mtL A B = mtL (A.drop (k + 1)) (B.drop (k + 1)) by rw [hf]; unfold one; rw [h43, hyz]; rfl)
                clear hf h43 hyz h35 hne hN35 hN43
                go_wp2
                go_quiet (fail)
                go_wp2
                go_roundw
                case rel => exact ⟨k + 1, by go_num, by omega, by omega, Hf, Lib.hid (fun p => hcell.out p), ⟨hbel.os, hbel.tape, hbel.output, hbel.size, hbel.block⟩⟩
                case measure => simp [intOf]; omega
            · have e43 : (y.toList == [43]) = true := hN43.trans h43
              have e43' : (y.toList != [43]) = false := by unfold bne; rw [e43]; rfl
              have Hf := Lib.hid (show mtL A B = mtL (A.drop (k + 1)) (B.drop (k + 1)) by rw [hf]; unfold one; rw [h43]; rfl)
              clear hf h43 h35 hne hN35 hN43
              go_wp2
              go_quiet (fail)
              go_wp2
              go_roundw
              case rel => exact ⟨k + 1, by go_num, by omega, by omega, Hf, Lib.hid (fun p => hcell.out p), ⟨hbel.os, hbel.tape, hbel.output, hbel.size, hbel.block⟩⟩
              case measure => simp [intOf]; omega
          · have hge : (n : Int) ≤ k := by omega
            have Hf := Lib.hid (show mtL A B = false from hv.out.trans (mtL_short hx hne (by rw [Hn.out]; omega)))
            clear hx h35 hne hN35 hN43
            go_wp2
            go_ret
            exact ⟨ret_bool (by rw [Hr.out, Hf.out]), hbel⟩
        · have e35 : (y.toList == [35]) = true := hN35.trans h35
          have Hf := Lib.hid (show mtL A B = true from hv.out.trans (mtL_hash hx (beq_iff_eq.1 h35)))
          clear hx h35 hN35 hN43
          go_wp2
          go_ret
          exact ⟨ret_bool (by rw [Hr.out, Hf.out]), hbel⟩
      · obtain rfl : k = m := by omega
        obtain ⟨b, hb⟩ : ∃ b, ((k : Int) == (n : Int)) = b := ⟨_, rfl⟩
        have Hf := Lib.hid (show mtL A B = b by rw [hv.out, mtL_done Hm.out (by rw [Hn.out]; exact hkn), Hn.out]; exact hb)
        go_wp2
        go_ret
        exact ⟨ret_bool (by rw [Hr.out, Hf.out]), hbel⟩

theorem refmatch_any (F N : ByteArray) (w : World) (hF : F.size ≤ 281474976710656) (hN : N.size ≤ 281474976710656) :
    Calls Tryd.prog 29 #[.string F, .string N] w fun e w' => e = .returned (.bool (mtB F N)) ∧ Below w.heap.size w w' := by
  cases h1 : filtB F
  · exact refmatch_bad1 F N w hF hN h1
  · cases h2 : nameB N
    · exact refmatch_bad2 F N w hF hN h1 h2
    · cases h3 : dol F.data.toList N.data.toList
      · exact refmatch_ok F N w h1 h2 h3
      · exact refmatch_dol F N w h1 h2 h3
end Go.Proofs.YtenoaonlngndpaaDoor

/- The walks of the document's Check, joined, ToRemote, ToLocal (layer 10). -/
namespace Go.Proofs.YtenoaonlngndpaaDoor
set_option linter.unusedVariables false
open Go.RowKit Pl Go.Shelf

theorem name_empty {s : ByteArray} (h : s.size = 0) : nameC s = 144 := by
  apply nameC_bad
  unfold nameB szd
  rw [show decide (0 < s.size) = false from decide_eq_false (by omega)]
  simp
theorem pre_cases (s : ByteArray) : (s.toList.isEmpty = true ∧ nameC s = 144 ∧ pre s = true) ∨ (s.toList.isEmpty = false ∧ nameC s = 0 ∧ pre s = true) ∨ (s.toList.isEmpty = false ∧ nameC s = 144 ∧ pre s = false) := by
  by_cases h0 : s.size = 0
  · have he : s = ⟨#[]⟩ := ByteArray.ext (Array.eq_empty_of_size_eq_zero h0)
    exact .inl ⟨by rw [he, ByteArray.toList_eq]; rfl, name_empty h0, by unfold pre; rw [decide_eq_true h0]; rfl⟩
  · have hemp : s.toList.isEmpty = false := by
      rw [ByteArray.toList_eq, List.isEmpty_eq_false_iff]
      intro hc
      exact h0 (congrArg List.length hc)
    have hp0 : pre s = nameB s := by unfold pre; rw [decide_eq_false h0]; rfl
    cases hn : nameB s
    · exact .inr (.inr ⟨hemp, nameC_bad hn, hp0.trans hn⟩)
    · exact .inr (.inl ⟨hemp, nameC_ok hn, hp0.trans hn⟩)

set_option maxHeartbeats 2000000 in
theorem refrcheck_any (r : Rl) (w : World) (hr : r.fits) :
    Calls Tryd.prog 60 #[ruV r] w fun e w' => e = .returned (.int .i64 (ckR r)) ∧ Below w.heap.size w w' := by
  obtain ⟨p0, p1, p2, p3, p4, p5, p6⟩ := hr
  have b0 : Below w.heap.size w (w.alloc (.cells (ruC r) 84)) := (Below.refl _ _).alloc (Nat.le_refl _) _
  have R0 := RuAt.new w r 84
  obtain ⟨W0, hW0⟩ : ∃ W0, w.alloc (.cells (ruC r) 84) = W0 := ⟨_, rfl⟩
  have HW := Lib.hid hW0
  rw [hW0] at b0 R0
  have HR := Lib.hid R0
  obtain ⟨g0, q0, q1, q2, q3, q4⟩ := R0
  have hck : ckR r = if filtB r.pat then (if pre r.loc && pre r.rem then inC r.dir r.qos else 144) else 143 := rfl
  clear hW0
  unfold ruV
  unfold ruC at HW
  cases hf : filtB r.pat
  · have HF := Lib.hid (filtC_bad hf)
    have Hz := Lib.hid (show ckR r = 143 by rw [hck, hf]; rfl)
    clear hck hf
    go_enter Tryd.func60, Tryd.ntmps60
    go_wp2_with fail
    rw [HW.out]
    refine (refcheckfilter_any r.pat _ (by omega)).mono ?_
    rintro e w1 ⟨rfl, b1⟩
    rw [HF.out]
    have c1 := b0.trans (b1.mono b0.size)
    have HR1 := Lib.hid (HR.out.below b1)
    obtain ⟨g1, r0, r1, r2, r3, r4⟩ := HR1.out
    go_wp2_with fail
    refine (refcheckname_any r.loc _ (by omega)).mono ?_
    rintro e w2 ⟨rfl, b2⟩
    have c2 := c1.trans (b2.mono c1.size)
    have HR2 := Lib.hid (HR1.out.below b2)
    obtain ⟨g2, s0, s1, s2, s3, s4⟩ := HR2.out
    go_wp2_with fail
    refine (refcheckname_any r.rem _ (by omega)).mono ?_
    rintro e w3 ⟨rfl, b3⟩
    have c3 := c2.trans (b3.mono c2.size)
    obtain ⟨g3, t0, t1, t2, t3, t4⟩ := HR2.out.below b3
    go_wp2
    go_ret
    exact ⟨ret_int Hz.out.symm, c3⟩
  · have HF := Lib.hid (filtC_ok hf)
    have hl := pre_cases r.loc
    have hm := pre_cases r.rem
    rcases hl with ⟨l1, l2, l3⟩ | ⟨l1, l2, l3⟩ | ⟨l1, l2, l3⟩
    rotate_left 2
    · have Hz := Lib.hid (show ckR r = 144 by rw [hck, hf, l3]; rfl)
      have HL := Lib.hid l2
      clear hck hf hm l2 l3
      go_enter Tryd.func60, Tryd.ntmps60
      go_wp2_with fail
      rw [HW.out]
      refine (refcheckfilter_any r.pat _ (by omega)).mono ?_
      rintro e w1 ⟨rfl, b1⟩
      rw [HF.out]
      have c1 := b0.trans (b1.mono b0.size)
      have HR1 := Lib.hid (HR.out.below b1)
      obtain ⟨g1, r0, r1, r2, r3, r4⟩ := HR1.out
      go_wp2_with fail
      refine (refcheckname_any r.loc _ (by omega)).mono ?_
      rintro e w2 ⟨rfl, b2⟩
      rw [HL.out]
      have c2 := c1.trans (b2.mono c1.size)
      have HR2 := Lib.hid (HR1.out.below b2)
      obtain ⟨g2, s0, s1, s2, s3, s4⟩ := HR2.out
      go_wp2_with fail
      refine (refcheckname_any r.rem _ (by omega)).mono ?_
      rintro e w3 ⟨rfl, b3⟩
      have c3 := c2.trans (b3.mono c2.size)
      obtain ⟨g3, t0, t1, t2, t3, t4⟩ := HR2.out.below b3
      go_wp2
      go_ret
      exact ⟨ret_int Hz.out.symm, c3⟩
    all_goals
      rcases hm with ⟨m1, m2, m3⟩ | ⟨m1, m2, m3⟩ | ⟨m1, m2, m3⟩
      rotate_left 2
      · have Hz := Lib.hid (show ckR r = 144 by rw [hck, hf, l3, m3]; rfl)
        have HL := Lib.hid l2
        have HM := Lib.hid m2
        clear hck hf l2 l3 m2 m3
        go_enter Tryd.func60, Tryd.ntmps60
        go_wp2_with fail
        rw [HW.out]
        refine (refcheckfilter_any r.pat _ (by omega)).mono ?_
        rintro e w1 ⟨rfl, b1⟩
        rw [HF.out]
        have c1 := b0.trans (b1.mono b0.size)
        have HR1 := Lib.hid (HR.out.below b1)
        obtain ⟨g1, r0, r1, r2, r3, r4⟩ := HR1.out
        go_wp2_with fail
        refine (refcheckname_any r.loc _ (by omega)).mono ?_
        rintro e w2 ⟨rfl, b2⟩
        rw [HL.out]
        have c2 := c1.trans (b2.mono c1.size)
        have HR2 := Lib.hid (HR1.out.below b2)
        obtain ⟨g2, s0, s1, s2, s3, s4⟩ := HR2.out
        go_wp2_with fail
        refine (refcheckname_any r.rem _ (by omega)).mono ?_
        rintro e w3 ⟨rfl, b3⟩
        rw [HM.out]
        have c3 := c2.trans (b3.mono c2.size)
        obtain ⟨g3, t0, t1, t2, t3, t4⟩ := HR2.out.below b3
        go_wp2
        go_ret
        exact ⟨ret_int Hz.out.symm, c3⟩
      all_goals
        have hz : ckR r = inC r.dir r.qos := by rw [hck, hf, l3, m3]; rfl
        have hic := inC_cases r.dir r.qos
        rw [← hz] at hic
        have HL := Lib.hid l2
        have HM := Lib.hid m2
        clear hck hf hz l2 l3 m2 m3
        rcases hic with ⟨i1, hz⟩ | ⟨i1, i2, hz⟩ | ⟨i1, i2, i3, hz⟩ | ⟨i1, i2, i3, i4, hz⟩ | ⟨i1, i2, i3, i4, hz⟩
        all_goals
          have Hz := Lib.hid hz
          clear hz
          go_enter Tryd.func60, Tryd.ntmps60
          go_wp2_with fail
          rw [HW.out]
          refine (refcheckfilter_any r.pat _ (by omega)).mono ?_
          rintro e w1 ⟨rfl, b1⟩
          rw [HF.out]
          have c1 := b0.trans (b1.mono b0.size)
          have HR1 := Lib.hid (HR.out.below b1)
          obtain ⟨g1, r0, r1, r2, r3, r4⟩ := HR1.out
          go_wp2_with fail
          refine (refcheckname_any r.loc _ (by omega)).mono ?_
          rintro e w2 ⟨rfl, b2⟩
          rw [HL.out]
          have c2 := c1.trans (b2.mono c1.size)
          have HR2 := Lib.hid (HR1.out.below b2)
          obtain ⟨g2, s0, s1, s2, s3, s4⟩ := HR2.out
          go_wp2_with fail
          refine (refcheckname_any r.rem _ (by omega)).mono ?_
          rintro e w3 ⟨rfl, b3⟩
          rw [HM.out]
          have c3 := c2.trans (b3.mono c2.size)
          obtain ⟨g3, t0, t1, t2, t3, t4⟩ := HR2.out.below b3
          go_wp2
          go_ret
          exact ⟨ret_int Hz.out.symm, c3⟩

theorem rst_size' (n f : ByteArray) : (rst n f).size ≤ n.size := by unfold rst; rw [ByteArray.size_extract]; omega
theorem Pl.trn_no' {r : Rl} {n f t : ByteArray} (h : (hp n f && (decide (ckR r = 0) && (mtB r.pat (rst n f) && (nameB n && nameB (t ++ rst n f))))) = false) : trn r n f t = (⟨#[]⟩, false) := by
  unfold trn; rw [h]; rfl

set_option maxHeartbeats 2000000 in
theorem joined_any (r : Rl) (n f t : ByteArray) (w : World) (hr : r.fits) (hn : n.size ≤ 140737488351232) (hf : f.size ≤ 140737488351232) (ht : t.size ≤ 140737488351232) :
    Calls Tryd.prog 43 #[ruV r, .string n, .string f, .string t] w fun e w' => e = .returned (.tuple #[.string (trn r n f t).1, .bool (trn r n f t).2]) ∧ Below w.heap.size w w' := by
  have HFit := Lib.hid hr
  obtain ⟨p0, p1, p2, p3, p4, p5, p6⟩ := hr
  have b0 : Below w.heap.size w (w.alloc (.cells (ruC r) 84)) := (Below.refl _ _).alloc (Nat.le_refl _) _
  have R0 := RuAt.new w r 84
  obtain ⟨W0, hW0⟩ : ∃ W0, w.alloc (.cells (ruC r) 84) = W0 := ⟨_, rfl⟩
  have HW := Lib.hid hW0
  rw [hW0] at b0 R0
  have HR := Lib.hid R0
  obtain ⟨g0, q0, q1, q2, q3, q4⟩ := R0
  have hrs := rst_size' n f
  clear hW0
  unfold ruV
  unfold ruC at HW
  by_cases h2 : ckR r = 0
  · have HC := Lib.hid h2
    by_cases hlt : n.size < f.size
    · have HZ := Lib.hid (trn_no' (r := r) (n := n) (f := f) (t := t) (by rw [hp_short hlt]; rfl))
      clear h2
      go_enter Tryd.func43, Tryd.ntmps43
      go_wp2_with fail
      rw [HW.out]
      refine (refrcheck_any r _ HFit.out).mono ?_
      rintro e w1 ⟨rfl, b1⟩
      rw [HC.out]
      have c1 := b0.trans (b1.mono b0.size)
      have HR1 := Lib.hid (HR.out.below b1)
      obtain ⟨g1, r0, r1, r2, r3, r4⟩ := HR1.out
      go_wp2
      go_ret2
      exact ⟨ret2 (val_bytes (by rw [HZ.out])) (val_bool (by rw [HZ.out])), c1⟩
    · have hle : f.size ≤ n.size := by omega
      have htk := hp_take n f
      cases h1 : hp n f
      · have e1 : ((n.extract 0 f.size).toList == f.toList) = false := htk.trans h1
        have e2 : ((n.extract 0 f.size).toList != f.toList) = true := by unfold bne; rw [e1]; rfl
        have HZ := Lib.hid (trn_no' (r := r) (n := n) (f := f) (t := t) (by rw [h1]; rfl))
        clear h1 h2 htk
        go_enter Tryd.func43, Tryd.ntmps43
        go_wp2_with fail
        rw [HW.out]
        refine (refrcheck_any r _ HFit.out).mono ?_
        rintro e w1 ⟨rfl, b1⟩
        rw [HC.out]
        have c1 := b0.trans (b1.mono b0.size)
        have HR1 := Lib.hid (HR.out.below b1)
        obtain ⟨g1, r0, r1, r2, r3, r4⟩ := HR1.out
        go_wp2
        go_ret2
        exact ⟨ret2 (val_bytes (by rw [HZ.out])) (val_bool (by rw [HZ.out])), c1⟩
      · have e1 : ((n.extract 0 f.size).toList == f.toList) = true := htk.trans h1
        have e2 : ((n.extract 0 f.size).toList != f.toList) = false := by unfold bne; rw [e1]; rfl
        cases h3 : mtB r.pat (rst n f) <;> cases h4 : nameB n <;> cases h5 : nameB (t ++ rst n f)
        rotate_left 7
        · have HZ := Lib.hid (show trn r n f t = (t ++ rst n f, true) by unfold trn; rw [h1, h2, h3, h4, h5]; rfl)
          have H3 := Lib.hid h3
          have H4 := Lib.hid (nameC_ok h4)
          have H5 := Lib.hid (nameC_ok h5)
          clear h1 h2 h3 h4 h5 htk
          go_enter Tryd.func43, Tryd.ntmps43
          go_wp2_with fail
          rw [HW.out]
          refine (refrcheck_any r _ HFit.out).mono ?_
          rintro e w1 ⟨rfl, b1⟩
          rw [HC.out]
          have c1 := b0.trans (b1.mono b0.size)
          have HR1 := Lib.hid (HR.out.below b1)
          obtain ⟨g1, r0, r1, r2, r3, r4⟩ := HR1.out
          go_wp2_with fail
          refine (refmatch_any r.pat (rst n f) _ (by omega) (by omega)).mono ?_
          rintro e w2 ⟨rfl, b2⟩
          rw [H3.out]
          have c2 := c1.trans (b2.mono c1.size)
          go_wp2_with fail
          refine (refcheckname_any n _ (by omega)).mono ?_
          rintro e w3 ⟨rfl, b3⟩
          rw [H4.out]
          have c3 := c2.trans (b3.mono c2.size)
          go_wp2_with fail
          refine (refcheckname_any (t ++ rst n f) _ (by rw [ByteArray.size_append]; omega)).mono ?_
          rintro e w4 ⟨rfl, b4⟩
          rw [H5.out]
          have c4 := c3.trans (b4.mono c3.size)
          go_wp2
          go_ret2
          exact ⟨ret2 (val_bytes (by rw [HZ.out]; rfl)) (val_bool (by rw [HZ.out])), c4⟩
        all_goals
          have HZ := Lib.hid (trn_no' (r := r) (n := n) (f := f) (t := t) (by rw [h3, h4, h5]; simp))
          have H3 := Lib.hid h3
          have H4 := Lib.hid (show nameC n = _ by first | exact nameC_ok h4 | exact nameC_bad h4)
          have H5 := Lib.hid (show nameC (t ++ rst n f) = _ by first | exact nameC_ok h5 | exact nameC_bad h5)
          clear h1 h2 h3 h4 h5 htk
          go_enter Tryd.func43, Tryd.ntmps43
          go_wp2_with fail
          rw [HW.out]
          refine (refrcheck_any r _ HFit.out).mono ?_
          rintro e w1 ⟨rfl, b1⟩
          rw [HC.out]
          have c1 := b0.trans (b1.mono b0.size)
          have HR1 := Lib.hid (HR.out.below b1)
          obtain ⟨g1, r0, r1, r2, r3, r4⟩ := HR1.out
          go_wp2_with fail
          refine (refmatch_any r.pat (rst n f) _ (by omega) (by omega)).mono ?_
          rintro e w2 ⟨rfl, b2⟩
          rw [H3.out]
          have c2 := c1.trans (b2.mono c1.size)
          go_wp2_with fail
          refine (refcheckname_any n _ (by omega)).mono ?_
          rintro e w3 ⟨rfl, b3⟩
          rw [H4.out]
          have c3 := c2.trans (b3.mono c2.size)
          go_wp2_with fail
          refine (refcheckname_any (t ++ rst n f) _ (by rw [ByteArray.size_append]; omega)).mono ?_
          rintro e w4 ⟨rfl, b4⟩
          rw [H5.out]
          have c4 := c3.trans (b4.mono c3.size)
          go_wp2
          go_ret2
          exact ⟨ret2 (val_bytes (by rw [HZ.out])) (val_bool (by rw [HZ.out])), c4⟩
  · have HZ := Lib.hid (trn_ck (n := n) (f := f) (t := t) h2)
    have hck := ckR_bd r
    obtain ⟨c, hc⟩ : ∃ c, ckR r = c := ⟨_, rfl⟩
    rw [hc] at h2 hck
    have hck0 := hck.1
    have hck1 := hck.2
    have h2a : (c == 0) = false := beq_eq_false_iff_ne.2 h2
    have h2b : (c != 0) = true := by rw [bne_iff_ne]; exact h2
    have HC := Lib.hid hc
    clear h2 hc hck
    go_enter Tryd.func43, Tryd.ntmps43
    go_wp2_with fail
    rw [HW.out]
    refine (refrcheck_any r _ HFit.out).mono ?_
    rintro e w1 ⟨rfl, b1⟩
    rw [HC.out]
    have c1 := b0.trans (b1.mono b0.size)
    have HR1 := Lib.hid (HR.out.below b1)
    obtain ⟨g1, r0, r1, r2, r3, r4⟩ := HR1.out
    go_wp2
    go_ret2
    exact ⟨ret2 (val_bytes (by rw [HZ.out])) (val_bool (by rw [HZ.out])), c1⟩

theorem reftoremote_any (r : Rl) (n : ByteArray) (w : World) (hr : r.fits) (hn : n.size ≤ 140737488351232) :
    Calls Tryd.prog 23 #[ruV r, .string n] w fun e w' => e = .returned (.tuple #[.string (toRem r n).1, .bool (toRem r n).2]) ∧ Below w.heap.size w w' := by
  have HFit := Lib.hid hr
  obtain ⟨p0, p1, p2, p3, p4, p5, p6⟩ := hr
  have b0 : Below w.heap.size w (w.alloc (.cells (ruC r) 84)) := (Below.refl _ _).alloc (Nat.le_refl _) _
  have R0 := RuAt.new w r 84
  obtain ⟨W0, hW0⟩ : ∃ W0, w.alloc (.cells (ruC r) 84) = W0 := ⟨_, rfl⟩
  have HW := Lib.hid hW0
  rw [hW0] at b0 R0
  have HR := Lib.hid R0
  obtain ⟨g0, q0, q1, q2, q3, q4⟩ := R0
  clear hW0
  unfold ruV
  unfold ruC at HW
  have hz := toRem_ref r n
  by_cases h : r.dir = 0
  · have HZ := Lib.hid (hz.trans (if_neg (by omega)))
    have h1 : (r.dir == 0) = true := beq_iff_eq.2 h
    have h2 : (r.dir != 0) = false := by unfold bne; rw [h1]; rfl
    clear h hz
    go_enter Tryd.func23, Tryd.ntmps23
    go_wp2_with fail
    rw [HW.out]
    refine (joined_any r n r.loc r.rem _ HFit.out hn (by omega) (by omega)).mono ?_
    rintro e w1 ⟨rfl, b1⟩
    go_wp2
    go_ret2
    exact ⟨ret2 (val_bytes (by rw [HZ.out])) (val_bool (by rw [HZ.out])), b0.trans (b1.mono b0.size)⟩
  · have h1 : (r.dir == 0) = false := beq_eq_false_iff_ne.2 h
    have h2 : (r.dir != 0) = true := by unfold bne; rw [h1]; rfl
    by_cases h' : r.dir = 2
    · have HZ := Lib.hid (hz.trans (if_neg (by omega)))
      have h3 : (r.dir == 2) = true := beq_iff_eq.2 h'
      have h4 : (r.dir != 2) = false := by unfold bne; rw [h3]; rfl
      clear h h' hz
      go_enter Tryd.func23, Tryd.ntmps23
      go_wp2_with fail
      rw [HW.out]
      refine (joined_any r n r.loc r.rem _ HFit.out hn (by omega) (by omega)).mono ?_
      rintro e w1 ⟨rfl, b1⟩
      go_wp2
      go_ret2
      exact ⟨ret2 (val_bytes (by rw [HZ.out])) (val_bool (by rw [HZ.out])), b0.trans (b1.mono b0.size)⟩
    · have HZ := Lib.hid (hz.trans (if_pos ⟨h, h'⟩))
      have h3 : (r.dir == 2) = false := beq_eq_false_iff_ne.2 h'
      have h4 : (r.dir != 2) = true := by unfold bne; rw [h3]; rfl
      clear h h' hz
      go_enter Tryd.func23, Tryd.ntmps23
      go_wp2
      go_ret2
      refine ⟨ret2 (val_bytes (by rw [HZ.out])) (val_bool (by rw [HZ.out])), ?_⟩
      exact (Below.refl _ _).alloc (Nat.le_refl _) _

end Go.Proofs.YtenoaonlngndpaaDoor

/- The document's Good. -/
namespace Go.Proofs.YtenoaonlngndpaaDoor
set_option linter.unusedVariables false
set_option linter.unusedSimpArgs false
open Go.RowKit Go.Maps Pl Go.Shelf
theorem dlk_cells {w : World} {B : Nat} {T : TypeId} {ls : List Lk} {al : Option Addr} {cl : Nat} (h : Sl B w T 6 (.slice al ls.length cl) ls.length (ls.flatMap lkC)) {i : Nat} {l : Lk} (hi : ls[i]? = some l) :
    ∃ g o, al = some ⟨g, o, none⟩ ∧ g < w.heap.size ∧ w.cell? ⟨g, o + i * 6, none⟩ = some (.int .i64 l.peer) ∧ w.cell? ⟨g, o + i * 6 + 1, none⟩ = some (.string l.rule.pat) ∧ w.cell? ⟨g, o + i * 6 + 2, none⟩ = some (.int .i64 l.rule.dir) ∧ w.cell? ⟨g, o + i * 6 + 3, none⟩ = some (.int .i64 l.rule.qos) ∧ w.cell? ⟨g, o + i * 6 + 4, none⟩ = some (.string l.rule.loc) ∧ w.cell? ⟨g, o + i * 6 + 5, none⟩ = some (.string l.rule.rem) := by
  have hlt := getElem?_lt hi
  obtain ⟨g, o, cap, e, -, hg, -, -, hc⟩ := h.at (by omega)
  cases e
  have f := fun j u (hu : (lkC l)[j]? = some u) => hc _ _ (flat_get lkC 6 (fun _ => rfl) ls i l hi j u hu)
  exact ⟨g, o, rfl, hg, f 0 _ rfl, f 1 _ rfl, f 2 _ rfl, f 3 _ rfl, f 4 _ rfl, f 5 _ rfl⟩
theorem dstr_cell {w : World} {B : Nat} {fs : List ByteArray} {af : Option Addr} {cf : Nat} (h : Sl B w 9 1 (.slice af fs.length cf) fs.length (fs.flatMap strC)) {i : Nat} {x : ByteArray} (hi : fs[i]? = some x) :
    ∃ g o, af = some ⟨g, o, none⟩ ∧ g < w.heap.size ∧ w.cell? ⟨g, o + i, none⟩ = some (.string x) := by
  have hlt := getElem?_lt hi
  obtain ⟨g, o, cap, e, -, hg, -, -, hc⟩ := h.at (by omega)
  cases e
  have := hc _ _ (flat_get strC 1 (fun _ => rfl) fs i x hi 0 _ rfl)
  rw [show i * 1 + 0 = i by omega] at this
  exact ⟨g, o, rfl, hg, this⟩
theorem any_take_false {α : Type} {p : α → Bool} {l : List α} {k : Nat} {x : α} (h : (l.take k).any p = false) (hx : l[k]? = some x) (hp : p x = false) : (l.take (k + 1)).any p = false := by
  rw [List.take_add_one, List.any_append, h, hx]
  simp [hp]
theorem any_get {α : Type} {p : α → Bool} {l : List α} {k : Nat} {x : α} (hx : l[k]? = some x) (hp : p x = true) : l.any p = true := List.any_eq_true.2 ⟨x, List.mem_of_getElem? hx, hp⟩
theorem info_rlkS : (Tryd.prog.info? 86).map (·.size) = some 6 := by kernel_rfl
set_option maxHeartbeats 4000000 in
set_option maxRecDepth 100000 in
theorem dgood_any (B : Nat) (a : Ad) (vf vl : Value) (w : World) (h : AdAt B w 86 a vf vl) (hf : a.fits) :
    Calls Tryd.prog 40 #[.agg (adA a vf vl)] w fun e w' => e = .returned (.bool (goodA a)) ∧ Below w.heap.size w w' := by
  have hY := (Below.refl w.heap.size w).alloc (Nat.le_refl _) (.cells (adA a vf vl) 69)
  have hk := blk_at w (adA a vf vl) 69 rfl
  obtain ⟨Y, hYe⟩ : ∃ Y, w.alloc (.cells (adA a vf vl) 69) = Y := ⟨_, rfl⟩
  rw [hYe] at hY hk
  have hwY : w.heap.size < Y.heap.size := hk.lt
  have HAY := Lib.hid (h.below hY)
  have HFT := Lib.hid hf
  have HE := Lib.hid hYe
  have HB := Lib.hid hY
  obtain ⟨af, cf, rfl, q1, q2, -⟩ := h.fs.form
  obtain ⟨al, cl, rfl, q3, q4, -⟩ := h.ls.form
  have k0 := hk.cell 0
  have k1 := hk.cell 1
  have k2 := hk.cell 2
  have k3 := hk.cell 3
  have hnf := hf.nf
  have hnl := hf.nl
  unfold maxLen at q2 q4
  simp only [adA, List.getElem?_toArray, List.getElem?_cons_zero, List.getElem?_cons_succ] at k0 k1 k2 k3
  have HG := Lib.hid (good_eq a)
  unfold adA at HE ⊢
  clear hY hk hYe h hf
  obtain ⟨owner, version, fs, ls⟩ := a
  simp only at k0 k1 k2 k3 q1 q3 HE hnf hnl HAY HFT HG ⊢
  have K0 := Lib.hid k0
  have K2 := Lib.hid k2
  have K3 := Lib.hid k3
  by_cases h0 : owner < 0
  · have HZ := Lib.hid (show goodA ⟨owner, version, fs, ls⟩ = false by rw [HG.out]; simp [nodeB, show ¬ 0 ≤ owner by omega])
    have d0 : decide (owner < 0) = true := by simp; omega
    go_enter Tryd.func40, Tryd.ntmps40
    go_wp2_with (first | (rw [HE.out]) | fail)
    go_ret
    exact ⟨ret_bool HZ.out.symm, HB.out⟩
  have d0 : decide (owner < 0) = false := by simp; omega
  by_cases h1 : 8 ≤ owner
  · have HZ := Lib.hid (show goodA ⟨owner, version, fs, ls⟩ = false by rw [HG.out]; simp [nodeB, show ¬ owner < 8 by omega])
    have d1 : decide (8 ≤ owner) = true := by simp; omega
    go_enter Tryd.func40, Tryd.ntmps40
    go_wp2_with (first | (rw [HE.out]) | fail)
    go_ret
    exact ⟨ret_bool HZ.out.symm, HB.out⟩
  have d1 : decide (8 ≤ owner) = false := by simp; omega
  by_cases h2 : version < 1
  · have HZ := Lib.hid (show goodA ⟨owner, version, fs, ls⟩ = false by rw [HG.out]; simp [show ¬ 1 ≤ version by omega])
    have d2 : decide (version < 1) = true := by simp; omega
    go_enter Tryd.func40, Tryd.ntmps40
    go_wp2_with (first | (rw [HE.out]) | fail)
    go_ret
    exact ⟨ret_bool HZ.out.symm, HB.out⟩
  have d2 : decide (version < 1) = false := by simp; omega
  by_cases h3 : 9007199254740992 < version
  · have HZ := Lib.hid (show goodA ⟨owner, version, fs, ls⟩ = false by rw [HG.out]; simp [show ¬ version ≤ 9007199254740992 by omega])
    have d3 : decide (9007199254740992 < version) = true := by simp; omega
    go_enter Tryd.func40, Tryd.ntmps40
    go_wp2_with (first | (rw [HE.out]) | fail)
    go_ret
    exact ⟨ret_bool HZ.out.symm, HB.out⟩
  have d3 : decide (9007199254740992 < version) = false := by simp; omega
  by_cases h4 : 64 < fs.length
  · have HZ := Lib.hid (show goodA ⟨owner, version, fs, ls⟩ = false by rw [HG.out]; simp [show ¬ fs.length ≤ 64 by omega])
    have d4 : decide ((64 : Int) < (fs.length : Int)) = true := by simp; omega
    have e4 : ((64 : Int) < (fs.length : Int)) := by omega
    go_enter Tryd.func40, Tryd.ntmps40
    go_wp2_with (first | (rw [HE.out]) | fail)
    go_ret
    exact ⟨ret_bool HZ.out.symm, HB.out⟩
  have d4 : decide ((64 : Int) < (fs.length : Int)) = false := by simp; omega
  by_cases h5 : 16 < ls.length
  · have HZ := Lib.hid (show goodA ⟨owner, version, fs, ls⟩ = false by rw [HG.out]; simp [show ¬ ls.length ≤ 16 by omega])
    have d5 : decide ((16 : Int) < (ls.length : Int)) = true := by simp; omega
    have e5 : ((16 : Int) < (ls.length : Int)) := by omega
    go_enter Tryd.func40, Tryd.ntmps40
    go_wp2_with (first | (rw [HE.out]) | fail)
    go_ret
    exact ⟨ret_bool HZ.out.symm, HB.out⟩
  have d5 : decide ((16 : Int) < (ls.length : Int)) = false := by simp; omega
  have HG2 := Lib.hid (show goodA ⟨owner, version, fs, ls⟩ = (!(fs.any fun x => !filtB x) && !(ls.any (badL owner))) by
    rw [HG.out]
    simp only [nodeB, show 0 ≤ owner by omega, show owner < 8 by omega, show 1 ≤ version by omega, show version ≤ 9007199254740992 by omega, show fs.length ≤ 64 by omega, show ls.length ≤ 16 by omega, decide_true, Bool.true_and])
  have hf64 : fs.length ≤ 64 := by omega
  have hl16 : ls.length ≤ 16 := by omega
  have e4 : (fs.length : Int) ≤ 64 := by omega
  have e5 : (ls.length : Int) ≤ 16 := by omega
  clear h0 h1 h2 h3 h4 h5 HG
  go_enter Tryd.func40, Tryd.ntmps40
  go_wp2_with (first | (rw [HE.out]) | fail)
  clear k0 k1 k2 k3 d0 d1 d2 d3 d4 d5
  go_loopw [3, 4] (fun i c wr => ∃ (k : Nat), i = .int .i64 k ∧ k ≤ fs.length ∧ Hid ((fs.take k).any (fun x => !filtB x) = false) ∧ Hid (Below Y.heap.size Y wr)) (fun i _ _ => fs.length - (intOf i).toNat)
  case atStart => exact ⟨0, rfl, Nat.zero_le _, Lib.hid rfl, Lib.hid (Below.refl _ _)⟩
  case round =>
    obtain ⟨k, rfl, hk, hA, hL⟩ := hrel
    have r2 := (hL.out.cell (p := ⟨w.heap.size, 2, none⟩) hwY).trans K2.out
    by_cases hlt : k < fs.length
    · have hkM : (k : Int) < (fs.length : Int) := by omega
      obtain ⟨x, hx⟩ : ∃ x, fs[k]? = some x := ⟨_, List.getElem?_eq_getElem (by omega)⟩
      obtain ⟨g, o, rfl, hg, c0⟩ := dstr_cell HAY.out.fs hx
      have c0 := (hL.out.cell (p := ⟨g, o + k, none⟩) hg).trans c0
      have hxs := HFT.out.fs x (List.mem_of_getElem? hx)
      have hx := Lib.hid hx
      clear hg
      have CF := Lib.hid (refcheckfilter_any x wr (by omega))
      cases hb : filtB x
      · have hc : filtC x = 143 := by unfold filtC; rw [hb]; rfl
        have HZ := Lib.hid (show goodA ⟨owner, version, fs, ls⟩ = false by rw [HG2.out, any_get hx.out (p := fun x => !filtB x) (by simp [hb])]; rfl)
        rw [hc] at CF
        clear hc hb
        go_wp2_with (first | (go_at_call 46; (with_reducible refine CF.out.mono ?_); rintro e w1 ⟨rfl, b1⟩; have HB1 := Lib.hid (hL.out.trans (b1.mono hL.out.size)); clear b1) | fail)
        go_ret
        exact ⟨ret_bool HZ.out.symm, HB.out.trans (HB1.out.mono HB.out.size)⟩
      · have hc : filtC x = 0 := by unfold filtC; rw [hb]; rfl
        have hA1 := Lib.hid (any_take_false hA.out hx.out (p := fun x => !filtB x) (by simp [hb]))
        rw [hc] at CF
        clear hc hb
        go_wp2_with (first | (go_at_call 46; (with_reducible refine CF.out.mono ?_); rintro e w1 ⟨rfl, b1⟩; have HB1 := Lib.hid (hL.out.trans (b1.mono hL.out.size)); clear b1) | fail)
        go_roundw
        case rel => exact ⟨k + 1, by go_num, by omega, hA1, HB1⟩
        case measure => simp [intOf]; omega
    · obtain rfl : k = fs.length := by omega
      have hN := Lib.hid (show (fs.any fun x => !filtB x) = false by have := hA.out; rwa [List.take_length] at this)
      have HG3 := Lib.hid (show goodA ⟨owner, version, fs, ls⟩ = (!(ls.any (badL owner))) by rw [HG2.out, hN.out]; rfl)
      clear HG2 hN hA
      have r3 := (hL.out.cell (p := ⟨w.heap.size, 3, none⟩) hwY).trans K3.out
      go_wp2_with fail
      go_loopw [5, 6, 7] (fun i v c wr => ∃ (k : Nat), i = .int .i64 k ∧ k ≤ ls.length ∧ Hid ((ls.take k).any (badL owner) = false) ∧ Hid (Below Y.heap.size Y wr)) (fun i _ _ _ => ls.length - (intOf i).toNat)
      case atStart => exact ⟨0, rfl, Nat.zero_le _, Lib.hid rfl, hL⟩
      case round =>
        clear hL r2 r3
        obtain ⟨k, rfl, hk, hA, hL⟩ := hrel
        have r3 := (hL.out.cell (p := ⟨w.heap.size, 3, none⟩) hwY).trans K3.out
        by_cases hlt : k < ls.length
        · have hkM : (k : Int) < (ls.length : Int) := by omega
          obtain ⟨l, hx⟩ : ∃ l, ls[k]? = some l := ⟨_, List.getElem?_eq_getElem (by omega)⟩
          obtain ⟨g, o, rfl, hg, c0, c1, c2, c3, c4, c5⟩ := dlk_cells HAY.out.ls hx
          have up := fun i => hL.out.cell (p := ⟨g, i, none⟩) hg
          have c0 := (up _).trans c0
          have c1 := (up _).trans c1
          have c2 := (up _).trans c2
          have c3 := (up _).trans c3
          have c4 := (up _).trans c4
          have c5 := (up _).trans c5
          have hfr := HFT.out.ls l (List.mem_of_getElem? hx)
          have hx := Lib.hid hx
          obtain ⟨peer, rule⟩ := l
          simp only at c0 c1 c2 c3 c4 c5 hfr
          obtain ⟨Z, hZ⟩ : ∃ Z, wr.alloc (.cells #[.int .i64 peer, .string rule.pat, .int .i64 rule.dir, .int .i64 rule.qos, .string rule.loc, .string rule.rem] 86) = Z := ⟨_, rfl⟩
          have hz1 := (Below.refl wr.heap.size wr).alloc (Nat.le_refl _) (.cells #[.int .i64 peer, .string rule.pat, .int .i64 rule.dir, .int .i64 rule.qos, .string rule.loc, .string rule.rem] 86)
          have hz2 := blk_at wr #[.int .i64 peer, .string rule.pat, .int .i64 rule.dir, .int .i64 rule.qos, .string rule.loc, .string rule.rem] 86 rfl
          rw [hZ] at hz1 hz2
          have hzl : wr.heap.size < Z.heap.size := hz2.lt
          have z0 := hz2.cell 0
          have z1 := hz2.cell 1
          have z2 := hz2.cell 2
          have z3 := hz2.cell 3
          have z4 := hz2.cell 4
          have z5 := hz2.cell 5
          simp only [List.getElem?_toArray, List.getElem?_cons_zero, List.getElem?_cons_succ] at z0 z1 z2 z3 z4 z5
          have HZB := Lib.hid (hL.out.trans (hz1.mono hL.out.size))
          have z00 := (HZB.out.cell (p := ⟨w.heap.size, 0, none⟩) hwY).trans K0.out
          have CK := Lib.hid (refrcheck_any rule Z hfr)
          unfold ruV at CK
          obtain ⟨c, hcv⟩ : ∃ c, ckR rule = c := ⟨_, rfl⟩
          rw [hcv] at CK
          have HZE := Lib.hid hZ
          have HCV := Lib.hid hcv
          clear hg up hZ hz1 hz2 hcv hfr
          by_cases p0 : peer < 0
          · have HZ := Lib.hid (show goodA ⟨owner, version, fs, ls⟩ = false by rw [HG3.out, any_get hx.out (p := badL owner) (by simp [badL, nodeB, show ¬ 0 ≤ peer by omega])]; rfl)
            have a0 : decide (peer < 0) = true := by simp; omega
            go_wp2_with (first | (rw [HZE.out]) | (go_at_call 60; (with_reducible refine CK.out.mono ?_); rintro e w2 ⟨rfl, b2⟩; have r6 := (b2.cell (p := ⟨wr.heap.size, 0, none⟩) hzl).trans z0; have r0 := (b2.cell (p := ⟨w.heap.size, 0, none⟩) (Nat.lt_of_lt_of_le hwY HZB.out.size)).trans z00; have HB2 := Lib.hid (HZB.out.trans (b2.mono HZB.out.size)); clear b2) | fail)
            go_ret
            exact ⟨ret_bool HZ.out.symm, HB.out.trans (HB2.out.mono HB.out.size)⟩
          have a0 : decide (peer < 0) = false := by simp; omega
          by_cases p1 : 8 ≤ peer
          · have HZ := Lib.hid (show goodA ⟨owner, version, fs, ls⟩ = false by rw [HG3.out, any_get hx.out (p := badL owner) (by simp [badL, nodeB, show ¬ peer < 8 by omega])]; rfl)
            have a1 : decide (8 ≤ peer) = true := by simp; omega
            go_wp2_with (first | (rw [HZE.out]) | (go_at_call 60; (with_reducible refine CK.out.mono ?_); rintro e w2 ⟨rfl, b2⟩; have r6 := (b2.cell (p := ⟨wr.heap.size, 0, none⟩) hzl).trans z0; have r0 := (b2.cell (p := ⟨w.heap.size, 0, none⟩) (Nat.lt_of_lt_of_le hwY HZB.out.size)).trans z00; have HB2 := Lib.hid (HZB.out.trans (b2.mono HZB.out.size)); clear b2) | fail)
            go_ret
            exact ⟨ret_bool HZ.out.symm, HB.out.trans (HB2.out.mono HB.out.size)⟩
          have a1 : decide (8 ≤ peer) = false := by simp; omega
          by_cases p2 : peer = owner
          · have HZ := Lib.hid (show goodA ⟨owner, version, fs, ls⟩ = false by rw [HG3.out, any_get hx.out (p := badL owner) (by simp [badL, p2])]; rfl)
            subst p2
            go_wp2_with (first | (rw [HZE.out]) | (go_at_call 60; (with_reducible refine CK.out.mono ?_); rintro e w2 ⟨rfl, b2⟩; have r6 := (b2.cell (p := ⟨wr.heap.size, 0, none⟩) hzl).trans z0; have r0 := (b2.cell (p := ⟨w.heap.size, 0, none⟩) (Nat.lt_of_lt_of_le hwY HZB.out.size)).trans z00; have HB2 := Lib.hid (HZB.out.trans (b2.mono HZB.out.size)); clear b2) | fail)
            go_ret
            exact ⟨ret_bool HZ.out.symm, HB.out.trans (HB2.out.mono HB.out.size)⟩
          have a2 : (peer == owner) = false := beq_eq_false_iff_ne.2 p2
          by_cases p3 : ¬ c = 0
          · have HZ := Lib.hid (show goodA ⟨owner, version, fs, ls⟩ = false by rw [HG3.out, any_get hx.out (p := badL owner) (by simp [badL, HCV.out, p3])]; rfl)
            have a3 : (c != 0) = true := by rw [bne_iff_ne]; exact p3
            have a4 : (c == 0) = false := beq_eq_false_iff_ne.2 p3
            go_wp2_with (first | (rw [HZE.out]) | (go_at_call 60; (with_reducible refine CK.out.mono ?_); rintro e w2 ⟨rfl, b2⟩; have r6 := (b2.cell (p := ⟨wr.heap.size, 0, none⟩) hzl).trans z0; have r0 := (b2.cell (p := ⟨w.heap.size, 0, none⟩) (Nat.lt_of_lt_of_le hwY HZB.out.size)).trans z00; have HB2 := Lib.hid (HZB.out.trans (b2.mono HZB.out.size)); clear b2) | fail)
            go_ret
            exact ⟨ret_bool HZ.out.symm, HB.out.trans (HB2.out.mono HB.out.size)⟩
          have p3 : c = 0 := Decidable.not_not.1 p3
          have hA1 := Lib.hid (any_take_false hA.out hx.out (p := badL owner) (by simp [badL, nodeB, HCV.out, p3, p2, show 0 ≤ peer by omega, show peer < 8 by omega]))
          subst p3
          go_wp2_with (first | (rw [HZE.out]) | (go_at_call 60; (with_reducible refine CK.out.mono ?_); rintro e w2 ⟨rfl, b2⟩; have r6 := (b2.cell (p := ⟨wr.heap.size, 0, none⟩) hzl).trans z0; have r0 := (b2.cell (p := ⟨w.heap.size, 0, none⟩) (Nat.lt_of_lt_of_le hwY HZB.out.size)).trans z00; have HB2 := Lib.hid (HZB.out.trans (b2.mono HZB.out.size)); clear b2) | fail)
          go_roundw
          case rel => exact ⟨k + 1, by go_num, by omega, hA1, HB2⟩
          case measure => simp [intOf]; omega
        · obtain rfl : k = ls.length := by omega
          have HZ := Lib.hid (show goodA ⟨owner, version, fs, ls⟩ = true by have := hA.out; rw [List.take_length] at this; rw [HG3.out, this]; rfl)
          go_wp2_with fail
          go_ret
          exact ⟨ret_bool HZ.out.symm, HB.out.trans (hL.out.mono HB.out.size)⟩
end Go.Proofs.YtenoaonlngndpaaDoor
