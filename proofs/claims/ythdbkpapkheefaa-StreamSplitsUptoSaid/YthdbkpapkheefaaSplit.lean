/- The walk of stream.Split. -/
import Derived.Test.YthdbkpapkheefaaRefSplit
import Derived.Deep.RegionHeld3
import Derived.Deep.AppendLies
import Derived.IntWalk
import Derived.WalkMore
namespace Go.Proofs.Ythdbkpapkheefaa
set_option linter.unusedVariables false
open Go.RowKit Pl

theorem emp_not {x : ByteArray} (h : x.size ≠ 0) : x.toList.isEmpty = false := by
  rw [ByteArray.toList_eq, List.isEmpty_eq_false_iff]
  intro hc
  have := congrArg List.length hc
  exact h this

theorem split_any (s : ByteArray) (most : Int) (w : World) (hs : s.size ≤ 1048576) (h0 : -9223372036854775808 ≤ most) (h1 : most ≤ 9223372036854775807) :
    Calls Try.prog 16 #[.string s, .int .i64 most] w fun e w' => ∃ v, e = .returned (.tuple #[v, .string (splitF most s.size s).2.1, .int .u8 (splitF most s.size s).2.2]) ∧
      w'.ownsRow w.heap.size 9 1 v (splitF most s.size s).1.length ((splitF most s.size s).1.map Value.string) ∧ Below w.heap.size w w' := by
  obtain ⟨i0, hi, hz0, hz1, hz2⟩ := info_parts info_str
  go_enter Try.func16, Try.ntmps16
  go_wp2
  go_step3
  go_wp2
  go_step3
  go_wp2
  go_loopw [0, 7, 8] (fun a b c wr => ∃ (x : ByteArray) (f : Nat) (l : List ByteArray), a = .string x ∧ c = .int .u8 0 ∧ x.size ≤ f ∧ l.length + x.size ≤ s.size ∧ wr.ownsRow w.heap.size 9 1 b l.length (l.map Value.string) ∧
      Hid (splitF most s.size s = (l ++ (splitF most f x).1, (splitF most f x).2)) ∧ Below w.heap.size w wr) (fun a _ _ _ => strSz a)
  case atStart => exact ⟨s, s.size, [], rfl, rfl, by omega, by simp, World.ownsRow_nil _ _ _ _, Lib.hid (by simp), Below.refl _ _⟩
  case round =>
    obtain ⟨x, f, l, rfl, rfl, hf, hl, hown, hv, hbel⟩ := hrel
    by_cases hx : x.size = 0
    · have he := size_nil hx
      have hr := Lib.hid (hv.out.trans (by rw [split_end hx]))
      subst he
      go_wp2
      go_ret3
      exact ⟨_, ret3 rfl (val_bytes (by rw [hr.out])) (val_int (by rw [hr.out])), by rw [hr.out]; simpa using hown, hbel⟩
    · have hpos : 0 < x.size := by omega
      have hemp := emp_not hx
      obtain ⟨v, e, c, hg⟩ : ∃ v e c, getV x 1 = (v, e, c) := ⟨_, _, _, rfl⟩
      have hc := getV_code x 1
      rw [hg] at hc
      have hc0 : 0 ≤ c := hc.1
      have hc1 : c ≤ 242 := hc.2
      clear hc
      have Hg := Lib.hid hg
      clear hg
      by_cases c242 : c = 242
      · have hr := Lib.hid (hv.out.trans (by rw [split_none hf hx (by rw [← c242]; exact Hg.out)]))
        subst c242
        go_wp2_with fail
        refine (get_all x 1 _ (by omega) (by omega) (by omega)).mono ?_
        rintro e w1 ⟨rfl, rfl⟩
        rw [Hg.out]
        go_wp2
        try rw [Exit.noGoto_ret]
        go_ret3
        exact ⟨_, ret3 rfl (val_bytes (by rw [hr.out])) (val_int (by rw [hr.out])), by rw [hr.out]; simpa using hown, hbel⟩
      · by_cases c0 : c = 0
        · subst c0
          clear c242 hc0 hc1
          obtain ⟨m, k, rfl, rfl, hk2, hk5, hkx, hm⟩ := get1 (by omega) Hg.out
          by_cases hmost : most < (k : Int) + m
          · have hr := Lib.hid (hv.out.trans (by rw [split_large hf hx Hg.out hmost]))
            go_wp2_with fail
            refine (get_all x 1 _ (by omega) (by omega) (by omega)).mono ?_
            rintro e w1 ⟨rfl, rfl⟩
            rw [Hg.out]
            go_wp2
            try rw [Exit.noGoto_ret]
            go_ret3
            exact ⟨_, ret3 rfl (val_bytes (by rw [hr.out])) (val_int (by rw [hr.out])), by rw [hr.out]; simpa using hown, hbel⟩
          · by_cases hshort : (x.size : Int) < (k : Int) + m
            · have hr := Lib.hid (hv.out.trans (by rw [split_short hf hx Hg.out hmost hshort]))
              have hsh : (x.size : Int) - k < m := by omega
              go_wp2_with fail
              refine (get_all x 1 _ (by omega) (by omega) (by omega)).mono ?_
              rintro e w1 ⟨rfl, rfl⟩
              rw [Hg.out]
              go_wp2
              try rw [Exit.noGoto_ret]
              go_ret3
              exact ⟨_, ret3 rfl (val_bytes (by rw [hr.out])) (val_int (by rw [hr.out])), by rw [hr.out]; simpa using hown, hbel⟩
            · have hkm : k + m ≤ x.size := by omega
              have hr := Lib.hid (hv.out.trans (by rw [split_more hf hx Hg.out hmost hkm]))
              have hbytes : (l.length + 1) * 16 ≤ 140737488355328 := by omega
              have hsh : ¬ (x.size : Int) - k < m := by omega
              have hw1 : IntKind.i64.wrap ((k : Int) + m) = (k : Int) + m := IntWalk.i64_in _ (by omega)
              have hw2 : (0 : Int) ≤ (k : Int) + m := by omega
              have hw3 : (k : Int) + m ≤ x.size := by omega
              have hw4 : ((k : Int) + m).toNat = k + m := by omega
              go_wp2_with fail
              refine (get_all x 1 _ (by omega) (by omega) (by omega)).mono ?_
              rintro e w1 ⟨rfl, rfl⟩
              rw [Hg.out]
              go_wp2
              go_region_held3 (fun _ => True) (first | trivial | go_keep)
                ((refine step_append_lies _ (by rfl) _ _ _ (by rfl) w.heap.size 9 i0 _ 1 16 Try.underlying38 hi hz0 hz1 hz2 rfl (by omega) _ l.length (l.map Value.string) (by rfl) ((hown.alloc _).drew)
                    ⟨wr.heap.size, 0, none⟩ 1 1 [.string (x.extract 0 (k + m))] (by rfl) (by rfl) (World.news_of_block (cs := #[.string (x.extract 0 (k + m))]) (t := 9) (fr := (0, 0)) (heap_alloc_new wr _)) (by simp [Value.oneCell'])
                    (by omega) (by simp [maxLen]; omega) hbytes (by simp; have := hbel.size; omega) (wr.heap.size + 1) (by simp) ?_; intro gg cap w1 hown1 hgrow hat hlt))
              go_wp2
              go_roundw
              case rel => exact ⟨x.extract (k + m) x.size, f - 1, l ++ [x.extract 0 (k + m)], rfl, rfl, by rw [ByteArray.size_extract]; omega, by rw [ByteArray.size_extract, List.length_append, List.length_singleton]; omega, by simpa using hown1, Lib.hid (by rw [hr.out]; simp), (hbel.alloc hbel.size _).drew.grown hgrow (by simp; have := hbel.size; omega) fun k hk => (hown.lt k hk).1⟩
              case measure => simp [strSz]; omega
        · have hr := Lib.hid (hv.out.trans (by rw [split_code hf hx Hg.out c242 c0]))
          go_wp2_with fail
          refine (get_all x 1 _ (by omega) (by omega) (by omega)).mono ?_
          rintro e w1 ⟨rfl, rfl⟩
          rw [Hg.out]
          go_wp2
          try rw [Exit.noGoto_ret]
          go_ret3
          exact ⟨_, ret3 rfl (val_bytes (by rw [hr.out])) (val_int (by rw [hr.out])), by rw [hr.out]; simpa using hown, hbel⟩
end Go.Proofs.Ythdbkpapkheefaa
