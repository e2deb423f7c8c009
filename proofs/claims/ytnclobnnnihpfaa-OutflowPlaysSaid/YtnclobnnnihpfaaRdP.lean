/- The document's pool (aqueductref13): In. -/
import Derived.Test.YtnclobnnnihpfaaPool
namespace Go.Proofs.Ytnclobnnnihpfaa
set_option linter.unusedVariables false
open Go.RowKit Go.Maps
def intsL (l : List Int) : List Value := l.map (Value.int .i64)
set_option maxHeartbeats 1000000 in
theorem rin_any (B rp : Nat) (most taken id : Int) (v : Value) (l : List Int) (w : World) (hb : Blk w rp #[.int .i64 most, .int .i64 taken, v] 116)
    (hs : Sl B w 3 1 v l.length (intsL l)) (hl : l.length ≤ 1000) :
    Calls Try.prog 44 #[.pointer (some ⟨rp, 0, none⟩), .int .i64 id] w fun e w' => e = .returned (.bool (decide (id ∈ l))) ∧ w' = w := by
  obtain ⟨ao, cap, rfl, hlc, hcm, -⟩ := hs.form
  have HS := Lib.hid hs
  have c2 := hb.cell 2
  simp only [List.getElem?_toArray, List.getElem?_cons_zero, List.getElem?_cons_succ] at c2
  clear hb hs
  go_enter Try.func44, Try.ntmps44
  go_wp2_with fail
  go_loopw [5] (fun iv wr => ∃ i : Nat, iv = .int .i64 i ∧ i ≤ l.length ∧ Hid (id ∉ l.take i) ∧ wr = w) (fun iv _ => ((l.length : Int) - intOf iv).toNat)
  case atStart => exact ⟨0, rfl, Nat.zero_le _, Lib.hid (by simp), rfl⟩
  case round =>
    obtain ⟨i, rfl, hi, hn, rfl⟩ := hrel
    by_cases hil : i < l.length
    · obtain ⟨x, hx⟩ : ∃ x, l[i]? = some x := ⟨_, List.getElem?_eq_getElem hil⟩
      obtain ⟨g, o, cap', ev, -, -, -, -, hcl⟩ := HS.out.at (by omega)
      injection ev with e1 e2 e3
      subst e1
      have c := hcl i (.int .i64 x) (by unfold intsL; rw [List.getElem?_map, hx]; rfl)
      have hI : (i : Int) < (l.length : Int) := by omega
      have II : Hid (i < l.length) := Lib.hid hil
      have HX := Lib.hid hx
      clear hcl e2 e3 hx
      by_cases hxe : x = id
      · subst hxe
        go_wp2
        go_ret
        exact ⟨by rw [decide_eq_true (List.mem_of_getElem? HX.out)]; rfl, rfl⟩
      · have hq : (x == id) = false := beq_eq_false_iff_ne.2 hxe
        go_wp2
        go_roundw
        case rel => exact ⟨i + 1, by go_num, by have := II.out; omega, Lib.hid (by rw [List.take_add_one, HX.out]; simp [hn.out]; exact fun c => hxe c.symm), trivial⟩
        case measure => have := II.out; simp [intOf]; omega
    · obtain rfl : i = l.length := by omega
      have hnn : ¬ ((l.length : Int) < (l.length : Int)) := by omega
      go_wp2
      go_ret
      exact ⟨by have := hn.out; rw [List.take_length] at this; rw [decide_eq_false this]; rfl, rfl⟩
end Go.Proofs.Ytnclobnnnihpfaa
