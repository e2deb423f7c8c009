/- The walks of the document's has, Levels, sized (layer 7). -/
import Derived.Test.YtdjiioidkgppjaaDoorRefFault
import Derived.Test.YtdjiioidkgppjaaDoorFokPlain
import Derived.Deep.QuietTactic
import Derived.BigQuiet
namespace Go.Proofs.YtdjiioidkgppjaaDoor
set_option linter.unusedVariables false
open Go.RowKit Pl Go.Shelf

theorem Pl.has_drop {c b : UInt8} {l : Bs} {k : Nat} (h : l[k]? = some b) : has c (l.drop k) = (c == b || has c (l.drop (k + 1))) := by
  obtain ⟨hk, hx⟩ := List.getElem?_eq_some_iff.1 h
  rw [List.drop_eq_getElem_cons hk, hx]
  unfold has
  rw [List.elem_cons]
  cases c == b <;> rfl
theorem Pl.lev_drop {l : Bs} {k : Nat} {b : UInt8} (h : l[k]? = some b) : lev (l.drop k) = if b = 47 then [] :: lev (l.drop (k + 1)) else prep [b] (lev (l.drop (k + 1))) := by
  obtain ⟨hk, hx⟩ := List.getElem?_eq_some_iff.1 h
  rw [List.drop_eq_getElem_cons hk, hx]
  rfl
theorem data_at (s : ByteArray) {k : Nat} (h : k < s.size) : s.data.toList[k]? = some s[k] := Lib.data_getElem? s k h
theorem refhas_any (s : ByteArray) (c : UInt8) (x : Int) (hx : x = (c.toNat : Int)) (w : World) (hs : s.size ≤ 281474976710656) :
    Calls Tryd.prog 37 #[.string s, .int .u8 x] w fun e w' => e = .returned (.bool (has c s.data.toList)) ∧ w = w' := by
  have Hx := Lib.hid hx
  clear hx
  go_enter Tryd.func37, Tryd.ntmps37
  go_wp2
  go_loop [5] (fun i => ∃ k : Nat, i = .int .i64 k ∧ k ≤ s.size ∧ Hid (has c s.data.toList = has c (s.data.toList.drop k))) (fun i => s.size - (intOf i).toNat)
  case atStart => exact ⟨0, rfl, by omega, Lib.hid (by rw [List.drop_zero])⟩
  case round =>
    obtain ⟨k, rfl, hk, hv⟩ := hrel
    by_cases hlt : k < s.size
    · have hf := hv.out.trans (has_drop (data_at s hlt))
      obtain ⟨b, hb⟩ : ∃ b, s[k] = b := ⟨_, rfl⟩
      rw [hb] at hf
      by_cases he : c = b
      · have he2 : ((b.toNat : Int) == x) = true := by rw [beq_iff_eq, Hx.out, he]
        have he3 : (((s[k]).toNat : Int) == x) = true := by rw [hb]; exact he2
        have Hf := Lib.hid (show has c s.data.toList = true by rw [hf, he]; simp)
        clear hf he hb he2
        go_wp2
        go_ret
        exact ⟨ret_bool (by rw [Hf.out]), rfl⟩
      · have he2 : ((b.toNat : Int) == x) = false := by
          rw [beq_eq_false_iff_ne, Hx.out]
          intro h
          exact he (UInt8.toNat_inj.1 (by omega)).symm
        have he3 : (((s[k]).toNat : Int) == x) = false := by rw [hb]; exact he2
        have Hf := Lib.hid (show has c s.data.toList = has c (s.data.toList.drop (k + 1)) by rw [hf, beq_eq_false_iff_ne.2 he]; rfl)
        clear hf he hb he2
        go_wp2
        go_round
        case rel => exact ⟨k + 1, by go_num, by omega, Hf⟩
        case measure => simp [intOf]; omega
    · have Hf := Lib.hid (show has c s.data.toList = false by rw [hv.out, List.drop_eq_nil_of_le (by have : s.data.toList.length = s.size := rfl; omega)]; rfl)
      go_wp2
      go_ret
      exact ⟨ret_bool (by rw [Hf.out]), rfl⟩

/-- A slice of strings reads as a list (of one element at least). -/
def Row (w : World) (v : Value) (L : List Bs) : Prop :=
  ∃ g cap, v = .slice (some ⟨g, 0, none⟩) L.length cap ∧ L.length ≤ cap ∧ g < w.heap.size ∧ ∀ k x, L[k]? = some x → w.cell? ⟨g, k, none⟩ = some (strV x)
theorem Row.below {w w' : World} {v : Value} {L : List Bs} (h : Row w v L) (hb : Below w.heap.size w w') : Row w' v L := by
  obtain ⟨g, cap, rfl, hc, hg, hx⟩ := h
  exact ⟨g, cap, rfl, hc, Nat.lt_of_lt_of_le hg hb.size, fun k x h => (hb.cell (p := ⟨g, k, none⟩) hg).trans (hx k x h)⟩
theorem info_str : (Tryd.prog.info? 9).map (fun i => (i.zero, i.size, i.bytes)) = some (some (.string ⟨#[]⟩), 1, 16) := by kernel_rfl
theorem row_of_own {w : World} {base n : Nat} {e : TypeId} {v : Value} {L : List Bs} (h : w.ownsRow base e 1 v n (L.map strV)) (hn : n = L.length) (hp : 0 < n) : Row w v L := by
  subst hn
  rcases h.2 with ⟨_, h0⟩ | ⟨g, cap, cur, rfl, _, hh, hnc, _⟩
  · omega
  · exact ⟨g, cap, rfl, hnc, (h.lt g rfl).2, fun k x hx => by
      have hk := (List.getElem?_eq_some_iff.1 hx).1
      rw [h.cellAt k (by omega), List.getElem?_map, hx]; rfl⟩

set_option maxHeartbeats 400000 in
theorem reflevels_any (s : ByteArray) (w : World) (hs : s.size ≤ 4294967280) :
    Calls Tryd.prog 36 #[.string s] w fun e w' => ∃ v, e = .returned v ∧ Row w' v (lev s.data.toList) ∧ Below w.heap.size w w' := by
  obtain ⟨i0, hi, hz0, hz1, hz2⟩ := info_parts info_str
  go_enter Tryd.func36, Tryd.ntmps36
  go_wp2
  go_loopw [3, 4, 5] (fun a b i wr => ∃ (k : Nat) (o : List Bs) (x : ByteArray), i = .int .i64 k ∧ b = .string x ∧ k ≤ s.size ∧ o.length ≤ k ∧ x.size ≤ k ∧ wr.ownsRow w.heap.size 9 1 a o.length (o.map strV) ∧
      Hid (lev s.data.toList = o ++ prep x.data.toList (lev (s.data.toList.drop k))) ∧ Below w.heap.size w wr) (fun _ _ i _ => s.size - (intOf i).toNat)
  case atStart => exact ⟨0, [], ⟨#[]⟩, rfl, rfl, by omega, by simp, by decide, World.ownsRow_nil _ _ _ _, Lib.hid (by rw [List.drop_zero]; exact (prep_nil (lev_ne _)).symm), Below.refl _ _⟩
  case round =>
    obtain ⟨k, o, x, rfl, rfl, hk, ho, hxk, hown, hv, hbel⟩ := hrel
    have hbytes : (o.length + 1) * 16 ≤ 140737488355328 := by omega
    by_cases hlt : k < s.size
    · have hf := hv.out.trans (by rw [lev_drop (data_at s hlt)])
      have hd := data_at s hlt
      obtain ⟨b, hb⟩ : ∃ b, s[k] = b := ⟨_, rfl⟩
      rw [hb] at hf hd
      by_cases he : b = 47
      · have he3 : (((s[k]).toNat : Int) == 47) = true := by rw [hb, he]; rfl
        have Hf := Lib.hid (show lev s.data.toList = (o ++ [x.data.toList]) ++ prep [] (lev (s.data.toList.drop (k + 1))) by
          rw [hf, if_pos he, prep_nil (lev_ne _)]
          simp [prep])
        clear hf hd he hb
        go_wp2_with (at_builtin; refine wpList_push (.tmp 16) (.tmp 18) 66 9 i0 (.string ⟨#[]⟩) 16 rfl rfl Tryd.underlying66 hi hz0 hz1 hz2 rfl w.heap.size _ o.length (o.map strV) (.string x) rfl rfl hown hbel hbel.size rfl (by simp [maxLen]; omega) hbytes ?_; intro v' w1 hown1 hbel1 hs1 hn1)
        go_wp2
        go_roundw
        case rel => exact ⟨k + 1, o ++ [x.data.toList], ⟨#[]⟩, by go_num, rfl, by omega, by rw [List.length_append, List.length_singleton]; omega, Nat.zero_le _, by rw [List.length_append, List.map_append]; exact hown1, Hf, hbel1⟩
        case measure => simp [intOf]; omega
      · have he3 : (((s[k]).toNat : Int) == 47) = false := by
          rw [hb, beq_eq_false_iff_ne]
          intro h
          exact he (UInt8.toNat_inj.1 (by show b.toNat = 47; omega))
        have hx : (x ++ s.extract k (k + 1)).data.toList = x.data.toList ++ [b] := by
          rw [ByteArray.data_append, Array.toList_append, Lib.extract_data]
          congr 1
          rw [Nat.add_sub_cancel_left, List.take_one, List.head?_drop, hd]
          rfl
        have Hf := Lib.hid (show lev s.data.toList = o ++ prep (x ++ s.extract k (k + 1)).data.toList (lev (s.data.toList.drop (k + 1))) by
          rw [hf, if_neg he, prep_prep _ _ (lev_ne _), hx])
        clear hf hd he hb hx
        go_wp2
        go_roundw
        case rel => exact ⟨k + 1, o, x ++ s.extract k (k + 1), by go_num, rfl, by omega, by omega, by rw [ByteArray.size_append, ByteArray.size_extract]; omega, hown, Hf, hbel⟩
        case measure => simp [intOf]; omega
    · have Hf := Lib.hid (show lev s.data.toList = o ++ [x.data.toList] by
        rw [hv.out, List.drop_eq_nil_of_le (by have : s.data.toList.length = s.size := rfl; omega)]
        simp [lev, prep])
      go_wp2_with (at_builtin; refine wpList_push (.tmp 27) (.tmp 29) 66 9 i0 (.string ⟨#[]⟩) 16 rfl rfl Tryd.underlying66 hi hz0 hz1 hz2 rfl w.heap.size _ o.length (o.map strV) (.string x) rfl rfl hown hbel hbel.size rfl (by simp [maxLen]; omega) hbytes ?_; intro v' w1 hown1 hbel1 hs1 hn1)
      go_wp2
      go_ret
      refine ⟨_, rfl, ?_, hbel1⟩
      rw [Hf.out]
      exact row_of_own (n := o.length + 1) (by rw [List.map_append]; exact hown1) (by simp) (by omega)

theorem refsized_any (s : ByteArray) (w : World) (hs : s.size ≤ 281474976710656) :
    Calls Tryd.prog 35 #[.string s] w fun e w' => e = .returned (.bool (szd s)) ∧ Below w.heap.size w w' := by
  obtain ⟨fa, fb, hf⟩ : ∃ fa fb, flt s s.size 0 = (fa, fb) := ⟨_, _, rfl⟩
  have Hf := Lib.hid hf
  cases fb
  · by_cases h0 : s.size = 0
    · have hz := Lib.hid (show szd s = false by unfold szd; rw [hf]; simp [h0])
      have h0' : ((s.size : Int) == 0) = true := by rw [beq_iff_eq]; omega
      clear hf h0
      go_enter Tryd.func35, Tryd.ntmps35
      go_wp2_with fail
      refine (reffault_any s _ hs).mono ?_
      rintro e w1 ⟨rfl, rfl⟩
      rw [Hf.out]
      go_wp2
      go_ret
      exact ⟨ret_bool hz.out.symm, Below.refl _ _⟩
    · have hpos : 0 < s.size := by omega
      have h0' : ((s.size : Int) == 0) = false := by rw [beq_eq_false_iff_ne]; omega
      by_cases h256 : s.size ≤ 256
      · have hz := Lib.hid (show szd s = decide (((lev s.data.toList).length : Int) ≤ 32) by
          unfold szd
          rw [hf, decide_eq_true hpos, decide_eq_true h256]
          have : decide ((lev s.data.toList).length ≤ 32) = decide (((lev s.data.toList).length : Int) ≤ 32) := by congr 1; rw [eq_iff_iff]; omega
          rw [this]
          rfl)
        clear hf
        go_enter Tryd.func35, Tryd.ntmps35
        go_wp2_with fail
        refine (reffault_any s _ hs).mono ?_
        rintro e w1 ⟨rfl, rfl⟩
        rw [Hf.out]
        go_wp2_with fail
        refine (reflevels_any s _ (by omega)).mono ?_
        rintro e w2 ⟨v, rfl, ⟨g, cap, rfl, hcap, hg, hx⟩, b2⟩
        have Hx := Lib.hid hx
        clear hx
        go_wp2
        go_ret
        exact ⟨ret_bool hz.out.symm, b2⟩
      · have hz := Lib.hid (show szd s = false by unfold szd; rw [hf]; simp [h256])
        clear hf
        go_enter Tryd.func35, Tryd.ntmps35
        go_wp2_with fail
        refine (reffault_any s _ hs).mono ?_
        rintro e w1 ⟨rfl, rfl⟩
        rw [Hf.out]
        go_wp2
        go_ret
        exact ⟨ret_bool hz.out.symm, Below.refl _ _⟩
  · have hz := Lib.hid (show szd s = false by unfold szd; rw [hf]; simp)
    clear hf
    go_enter Tryd.func35, Tryd.ntmps35
    go_wp2_with fail
    refine (reffault_any s _ hs).mono ?_
    rintro e w1 ⟨rfl, rfl⟩
    rw [Hf.out]
    go_wp2
    go_ret
    exact ⟨ret_bool hz.out.symm, Below.refl _ _⟩

end Go.Proofs.YtdjiioidkgppjaaDoor
