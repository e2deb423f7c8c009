/- The walk of the document's Split. -/
import Derived.Test.YthdbkpapkheefaaVarGet
import Derived.Test.YthdbkpapkheefaaSplitPlain
namespace Go.Proofs.Ythdbkpapkheefaa
set_option linter.unusedVariables false
open Go.RowKit Pl

theorem info_str : (Try.prog.info? 9).map (fun i => (i.zero, i.size, i.bytes)) = some (some (.string ⟨#[]⟩), 1, 16) := by kernel_rfl
def strSz : Value → Nat
  | .string s => s.size
  | _ => 0
theorem size_nil {x : ByteArray} (h : x.size = 0) : x = ⟨#[]⟩ := by
  apply ByteArray.ext
  exact Array.eq_empty_of_size_eq_zero h

theorem refsplit_any (s : ByteArray) (most : Int) (w : World) (hs : s.size ≤ 1048576) (h0 : -9223372036854775808 ≤ most) (h1 : most ≤ 9223372036854775807) :
    Calls Try.prog 17 #[.string s, .int .i64 most] w fun e w' => ∃ v, e = .returned (.tuple #[v, .string (splitF most s.size s).2.1, .int .i64 (splitF most s.size s).2.2]) ∧
      w'.ownsRow w.heap.size 9 1 v (splitF most s.size s).1.length ((splitF most s.size s).1.map Value.string) ∧ Below w.heap.size w w' := by
  obtain ⟨i0, hi, hz0, hz1, hz2⟩ := info_parts info_str
  go_enter Try.func17, Try.ntmps17
  go_wp2
  go_loopw [0, 7] (fun a b wr => ∃ (x : ByteArray) (f : Nat) (l : List ByteArray), a = .string x ∧ x.size ≤ f ∧ l.length + x.size ≤ s.size ∧ wr.ownsRow w.heap.size 9 1 b l.length (l.map Value.string) ∧
      Hid (splitF most s.size s = (l ++ (splitF most f x).1, (splitF most f x).2)) ∧ Below w.heap.size w wr) (fun a _ _ => strSz a)
  case atStart => exact ⟨s, s.size, [], rfl, by omega, by simp, World.ownsRow_nil _ _ _ _, Lib.hid (by simp), Below.refl _ _⟩
  case round =>
    obtain ⟨x, f, l, rfl, hf, hl, hown, hv, hbel⟩ := hrel
    by_cases hx : x.size = 0
    · have he := size_nil hx
      have hr := Lib.hid (hv.out.trans (by rw [split_end hx]))
      subst he
      go_wp2
      go_ret3
      exact ⟨_, ret3 rfl (val_bytes (by rw [hr.out])) (val_int (by rw [hr.out])), by rw [hr.out]; simpa using hown, hbel⟩
    · have hpos : 0 < x.size := by omega
      obtain ⟨v, e, c, hg⟩ : ∃ v e c, getV x 1 = (v, e, c) := ⟨_, _, _, rfl⟩
      have hc := getV_code x 1
      rw [hg] at hc
      have hc0 : 0 ≤ c := hc.1
      have hc1 : c ≤ 242 := hc.2
      clear hc
      have Hg := Lib.hid hg
      clear hg
      by_cases c242 : c = 242
      · have hr := Lib.hid (hv.out.trans (by rw [split_none hf hx (by rw [← c242]; exact Hg.out)]))
        subst c242
        go_wp2_with fail
        refine (refget_all x 1 _ (by omega) (by omega) (by omega)).mono ?_
        rintro e w1 ⟨rfl, rfl⟩
        rw [Hg.out]
        go_wp2
        go_ret3
        exact ⟨_, ret3 rfl (val_bytes (by rw [hr.out])) (val_int (by rw [hr.out])), by rw [hr.out]; simpa using hown, hbel⟩
      · by_cases c0 : c = 0
        · subst c0
          clear c242 hc0 hc1
          obtain ⟨m, k, rfl, rfl, hk2, hk5, hkx, hm⟩ := get1 (by omega) Hg.out
          by_cases hmost : most < (k : Int) + m
          · have hr := Lib.hid (hv.out.trans (by rw [split_large hf hx Hg.out hmost]))
            go_wp2_with fail
            refine (refget_all x 1 _ (by omega) (by omega) (by omega)).mono ?_
            rintro e w1 ⟨rfl, rfl⟩
            rw [Hg.out]
            go_wp2
            go_ret3
            exact ⟨_, ret3 rfl (val_bytes (by rw [hr.out])) (val_int (by rw [hr.out])), by rw [hr.out]; simpa using hown, hbel⟩
          · by_cases hshort : (x.size : Int) < (k : Int) + m
            · have hr := Lib.hid (hv.out.trans (by rw [split_short hf hx Hg.out hmost hshort]))
              go_wp2_with fail
              refine (refget_all x 1 _ (by omega) (by omega) (by omega)).mono ?_
              rintro e w1 ⟨rfl, rfl⟩
              rw [Hg.out]
              go_wp2
              go_ret3
              exact ⟨_, ret3 rfl (val_bytes (by rw [hr.out])) (val_int (by rw [hr.out])), by rw [hr.out]; simpa using hown, hbel⟩
            · have hkm : k + m ≤ x.size := by omega
              have hr := Lib.hid (hv.out.trans (by rw [split_more hf hx Hg.out hmost hkm]))
              have hbytes : (l.length + 1) * 16 ≤ 140737488355328 := by omega
              go_wp2_with fail
              refine (refget_all x 1 _ (by omega) (by omega) (by omega)).mono ?_
              rintro e w1 ⟨rfl, rfl⟩
              rw [Hg.out]
              go_wp2_with (at_builtin; refine wpList_push (.tmp 44) (.tmp 50) 38 9 i0 (.string ⟨#[]⟩) 16 rfl rfl Try.underlying38 hi hz0 hz1 hz2 rfl w.heap.size _ l.length (l.map Value.string) (.string (x.extract 0 (k + m))) rfl rfl hown hbel hbel.size rfl (by simp [maxLen]; omega) hbytes ?_; intro v' w1 hown1 hbel1 hs1 hn1)
              go_wp2
              go_roundw
              case rel => exact ⟨x.extract (k + m) x.size, f - 1, l ++ [x.extract 0 (k + m)], rfl, by rw [ByteArray.size_extract]; omega, by rw [ByteArray.size_extract, List.length_append, List.length_singleton]; omega, by simpa using hown1, Lib.hid (by rw [hr.out]; simp), hbel1⟩
              case measure => simp [strSz]; omega
        · have hr := Lib.hid (hv.out.trans (by rw [split_code hf hx Hg.out c242 c0]))
          go_wp2_with fail
          refine (refget_all x 1 _ (by omega) (by omega) (by omega)).mono ?_
          rintro e w1 ⟨rfl, rfl⟩
          rw [Hg.out]
          go_wp2
          go_ret3
          exact ⟨_, ret3 rfl (val_bytes (by rw [hr.out])) (val_int (by rw [hr.out])), by rw [hr.out]; simpa using hown, hbel⟩
end Go.Proofs.Ythdbkpapkheefaa
