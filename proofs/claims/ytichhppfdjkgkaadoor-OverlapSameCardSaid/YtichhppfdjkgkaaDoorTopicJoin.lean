/- The walk of package topic's Join. -/
import Derived.Test.YtichhppfdjkgkaaDoorTopic
namespace Go.Proofs.YtichhppfdjkgkaaDoor
set_option linter.unusedVariables false
open Go.RowKit Pl Go.Shelf

theorem join_any (g o cap : Nat) (L : List Bs) (w : World) (hx : ∀ (k : Nat) x, L[k]? = some x → w.cell? ⟨g, o + k, none⟩ = some (strV x)) (hg : g < w.heap.size) (hcap : L.length ≤ cap) (hN : L.length ≤ 140737488355328)
    (hlen : (jn L).length ≤ 140737488355328) :
    Calls Tryd.prog 49 #[.slice (some ⟨g, o, none⟩) L.length cap] w fun e w' => e = .returned (.string ⟨(jn L).toArray⟩) ∧ Below w.heap.size w w' := by
  have hL : (L.map fun x => (⟨x.toArray⟩ : ByteArray)).length = L.length := by simp
  have hd : (L.map fun x => (⟨x.toArray⟩ : ByteArray)).map (·.data.toList) = L := by rw [List.map_map]; exact List.map_id L
  have c := Tryd.strings_Join g o cap (L.map fun x => ⟨x.toArray⟩) ⟨#[47]⟩ w (fun j x h => by
      rw [List.getElem?_map] at h
      obtain ⟨y, hy, rfl⟩ := Option.map_eq_some_iff.1 h
      exact hx j y hy) hg (by rw [hL]; exact hN) (by rw [hL]; exact hcap) (by rw [hd]; show (Lib.join L [47]).length ≤ _; rw [join_jn]; exact hlen)
  rw [hL, hd] at c
  have e : Lib.join L (⟨#[47]⟩ : ByteArray).data.toList = jn L := join_jn L
  rw [e] at c
  have C := Lib.hid c
  clear c e hd hL
  go_enter Tryd.func49, Tryd.ntmps49
  go_wp2_with fail
  refine C.out.mono ?_
  rintro e w' ⟨rfl, hb⟩
  go_wp2
  go_ret
  exact ⟨rfl, hb⟩
theorem join_at (g n cap : Nat) (L : List Bs) (w : World) (hn : L.length = n) (hx : ∀ (k : Nat) x, L[k]? = some x → w.cell? ⟨g, k, none⟩ = some (strV x)) (hg : g < w.heap.size) (hcap : n ≤ cap) (hN : n ≤ 140737488355328)
    (hlen : (jn L).length ≤ 140737488355328) :
    Calls Tryd.prog 49 #[.slice (some ⟨g, 0, none⟩) n cap] w fun e w' => e = .returned (.string ⟨(jn L).toArray⟩) ∧ Below w.heap.size w w' := by
  subst hn
  exact join_any g 0 cap L w (fun k x h => by rw [Nat.zero_add]; exact hx k x h) hg hcap hN hlen
theorem join_none (a : Option Addr) (cap : Nat) (w : World) :
    Calls Tryd.prog 49 #[.slice a 0 cap] w fun e w' => e = .returned (.string ⟨#[]⟩) ∧ w = w' := by
  go_enter Tryd.func49, Tryd.ntmps49
  go_wp2_with fail
  refine (Tryd.strings_Join_none a cap ⟨#[47]⟩ _).mono ?_
  rintro e w' ⟨rfl, rfl⟩
  go_wp2
  go_ret
  exact ⟨rfl, rfl⟩
end Go.Proofs.YtichhppfdjkgkaaDoor
