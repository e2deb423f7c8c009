/- slices.Delete of one element: what its append and its clear leave. Over whatever program. -/
import Derived.Test.YtnclobnnnihpfaaFr
import Derived.Laws.CopyRow
namespace Go.Proofs.Ytnclobnnnihpfaa
set_option linter.unusedVariables false
open Go.RowKit

section
variable {P : Program} {w : World} {e : TypeId}
theorem run_append_at (t ty : TypeId) (i : TypeInfo) (ht : P.underlying t = some (.slice e)) (hi : P.info? e = some i) {size : Nat} (hsize : i.size = size) {g o n cap m c : Nat} {cur : Array Value} (a : Addr) (news : List Value)
    (hg : w.heap[g]? = some (.cells cur e (0, 0))) (hl : news.length = m * size) (hnews : ∀ j u, news[j]? = some u → w.cell? (a.add j) = some u) (h1 : ∀ u ∈ news, u.oneCell' = true) (hroom : n + m ≤ cap) (hfit : o + n * size + news.length ≤ cur.size) :
    (Builtin.append_ #[t, t] ty #[.slice (some ⟨g, o, none⟩) n cap, .slice (some a) m c]).run P w = .ok (.slice (some ⟨g, o, none⟩) (n + m) cap) (w.setRow g (cur.toList.take (o + n * size) ++ news ++ cur.toList.drop (o + n * size + news.length)).toArray) := by
  have hfc := run_firstCells_some (P := P) w i.size m a m c news (by rw [hsize]; exact hl) hnews
  have hst := run_storeCells_at P g (o + n * size) e news 0 cur w hg (by simpa using hfit) h1
  simp only [Nat.add_zero] at hst
  subst hsize
  simp [Builtin.append_, run_underlying ht, sizeOf, typeInfo, hi, Builtin.lenOf, hroom, hfc, Addr.add_lit, hst]
theorem run_clear_at (t ty : TypeId) (i : TypeInfo) (z : Value) (ht : P.underlying t = some (.slice e)) (hi : P.info? e = some i) (hz : i.zero = some z) {g o c : Nat} {cur : Array Value}
    (hg : w.heap[g]? = some (.cells cur e (0, 0))) (h1 : ∀ u ∈ (Builtin.zeroCells z.cells 1).toList, u.oneCell' = true) (hfit : o + (Builtin.zeroCells z.cells 1).toList.length ≤ cur.size) :
    (Builtin.clear_ #[t] ty #[.slice (some ⟨g, o, none⟩) 1 c]).run P w = .ok (.tuple #[]) (w.setRow g (cur.toList.take o ++ (Builtin.zeroCells z.cells 1).toList ++ cur.toList.drop (o + (Builtin.zeroCells z.cells 1).toList.length)).toArray) := by
  have hst := run_storeCells_at P g o e (Builtin.zeroCells z.cells 1).toList 0 cur w hg (by simpa using hfit) h1
  simp only [Nat.add_zero] at hst
  simp only [Builtin.clear_, List.getElem?_toArray, List.getElem?_cons_zero]
  simp [run_underlying ht, zeroValue, typeInfo, hi, hz, hst, Result.andThen]
end
/-- An append whose run is known, at a step of a region that draws. -/
theorem step_append_run {P : Program} {w w' : World} {ops : Array Oper} {o : Oper} {a : Act} {K : Act → World → Prop} {Q : Exit → Act → World → Prop} {E : Prop} (hgd : o.guard = none) (s x : Operand) (t : TypeId)
    (ho : o.op = .call { callee := .builtin .append, args := #[s, x], argTypes := #[t, t] }) (vs vx v : Value) (hs : a.eval s = vs) (hx : a.eval x = vx)
    (hr : ∀ ty, (Builtin.append_ #[t, t] ty #[vs, vx]).run P w = .ok v w') (h : K (a.put o.dst v) w') : if Region.wanted o (yielded ops a.tmps) = true then Oper.wp P o a w K Q else E := by
  rw [if_pos (by simp [Region.wanted, hgd])]
  unfold Oper.wp execOp
  simp only [ho, resolve, invoke, builtin, Sem.run_bind, Sem.run_pure, Result.andThen_ok, List.map_toArray, List.map_cons, List.map_nil, hs, hx, hr]
  exact h
/-- The list behind both. -/
theorem del_list {cur xs zs : List Value} {o a b n k : Nat} (hx : (cur.drop o).take n = xs) (hlen : xs.length = n) (ha : a + b ≤ n) (hk : k = n - b) :
    ((((cur.take (o + a) ++ xs.drop (a + b) ++ cur.drop (o + a + (xs.drop (a + b)).length)).take (o + k) ++ zs ++ (cur.take (o + a) ++ xs.drop (a + b) ++ cur.drop (o + a + (xs.drop (a + b)).length)).drop (o + k + zs.length))).drop o).take k = xs.take a ++ xs.drop (a + b) := by
  subst hk
  have hol : o ≤ cur.length ∨ n = 0 := by
    rcases Nat.lt_or_ge cur.length o with c | c
    · right
      rw [List.drop_eq_nil_of_le (by omega)] at hx
      subst hx
      simpa using hlen.symm
    · exact .inl c
  have hcl : n = 0 ∨ o + n ≤ cur.length := by
    rcases hol with c | c
    · have := congrArg List.length hx
      rw [List.length_take, List.length_drop] at this
      omega
    · exact .inl c
  have hta : (cur.drop o).take a = xs.take a := by
    rw [← hx, List.take_take, Nat.min_eq_left (by omega)]
  have e1 : cur.take (o + a) = cur.take o ++ xs.take a := by rw [List.take_add, hta]
  have hd : (xs.drop (a + b)).length = n - (a + b) := by rw [List.length_drop, hlen]
  have hto : n = 0 ∨ (cur.take o).length = o := by
    rcases hcl with c | c
    · exact .inl c
    · right; rw [List.length_take]; omega
  rcases hto with c | hto
  · subst c
    obtain rfl : xs = [] := List.eq_nil_of_length_eq_zero hlen
    simp
  · have hxa : (xs.take a).length = a := by rw [List.length_take]; omega
    have e2 : (cur.take (o + a) ++ xs.drop (a + b) ++ cur.drop (o + a + (xs.drop (a + b)).length)).take (o + (n - b)) = cur.take o ++ (xs.take a ++ xs.drop (a + b)) := by
      rw [e1, List.append_assoc, List.append_assoc, ← List.append_assoc (xs.take a), ← List.append_assoc]
      rw [List.take_left' (by rw [List.length_append, List.length_append, hto, hxa, hd]; omega)]
    rw [e2, List.append_assoc (cur.take o), List.append_assoc (cur.take o), List.drop_left' hto, List.append_assoc, List.take_left' (by rw [List.length_append, hxa, hd]; omega)]
end Go.Proofs.Ytnclobnnnihpfaa
