/- Parts of the proof, joined: PkL0, Chains2, PropW0, PropW5, PkL1. -/
import Derived.Test.YtlnanenfpapfkaaDoorH5P4
import Derived.Great.BuildSlice
import Derived.Test.YtlnanenfpapfkaaDoorH5P1
import Derived.Test.YtlnanenfpapfkaaDoorProg
import Derived.WalkKit
import Derived.WalkLawsBesides
import Derived.WalkSpells
import Derived.Handy
import Derived.Deep.AppendLies
import Derived.Deep.RegionHeld3
import Derived.Laws.CopyOwn
/- Two packets under way side by side, the program's and the document's: what holds of them in memory. -/
namespace Go.Proofs.YtlnanenfpapfkaaDoor
set_option linter.unusedVariables false
open Go.RowKit Pl

/-- A slice's header, read off its value. -/
def hdOf : Value → Hd
  | .slice A n c => ⟨A, n, c⟩
  | _ => ⟨none, 0, 0⟩
theorem own_hd {w : World} {B : Nat} {e : TypeId} {s n : Nat} {v : Value} {xs : List Value} (h : w.ownsRow B e s v n xs) : v = (hdOf v).v ∧ (hdOf v).n = n ∧ n ≤ (hdOf v).cap ∧ (((hdOf v).A = none ∧ (hdOf v).cap = 0) ∨ ∃ a, (hdOf v).A = some a) := by
  rcases h.2 with ⟨rfl, rfl⟩ | ⟨g, cap, cur, rfl, _, _, hc, _⟩
  · exact ⟨rfl, rfl, Nat.le_refl _, .inl ⟨rfl, rfl⟩⟩
  · exact ⟨rfl, rfl, hc, .inr ⟨_, rfl⟩⟩
theorem own_lower {w : World} {B B' : Nat} {e : TypeId} {s n : Nat} {v : Value} {xs : List Value} (h : w.ownsRow B e s v n xs) (hB : B' ≤ B) : w.ownsRow B' e s v n xs := by
  refine ⟨h.1, ?_⟩
  rcases h.2 with h0 | ⟨g, cap, cur, rfl, hg, hrest⟩
  · exact .inl h0
  · exact .inr ⟨g, cap, cur, rfl, Nat.le_trans hB hg, hrest⟩
/-- Rows of different types lie apart. -/
theorem own_apart {w : World} {B B' : Nat} {e e' : TypeId} {s s' n n' : Nat} {v v' : Value} {xs xs' : List Value} (h : w.ownsRow B e s v n xs) (h' : w.ownsRow B' e' s' v' n' xs') (he : e ≠ e') : ∀ g, v.ownBlock = some g → v'.ownBlock ≠ some g := by
  intro g hg hg'
  rcases h.2 with ⟨rfl, _⟩ | ⟨g1, cap, cur, rfl, _, hh, _⟩
  · cases hg
  · rcases h'.2 with ⟨rfl, _⟩ | ⟨g2, cap2, cur2, rfl, _, hh2, _⟩
    · cases hg'
    · have e1 : g1 = g := by simpa [Value.ownBlock] using hg
      have e2 : g2 = g := by simpa [Value.ownBlock] using hg'
      subst e1 e2
      rw [hh] at hh2
      injection hh2 with hh2
      injection hh2 with _ h3 _
      exact he h3
theorem blk_apart {w : World} {g g' : Nat} {cs cs' : Array Value} {t t' : TypeId} (h : Blk w g cs t) (h' : Blk w g' cs' t') (ht : t ≠ t') : g ≠ g' := by
  rintro rfl
  unfold Blk at h h'
  rw [h] at h'
  injection h' with h'
  injection h' with _ h3 _
  exact ht h3
/-- What one chain turns lies apart from the other. -/
theorem x_side {w : World} {ga gb B B' : Nat} {csA csB : Array Value} {TA TB e1 e2 : TypeId} {s1 s2 n1 n2 : Nat} {v1 v2 : Value} {x1 x2 : List Value} (ha : Blk w ga csA TA) (hb : Blk w gb csB TB) (hAB : TA ≠ TB) (o1 : w.ownsRow B e1 s1 v1 n1 x1) (o2 : w.ownsRow B' e2 s2 v2 n2 x2) (h1 : TB ≠ e1) (h2 : TA ≠ e2)
    (hd : ∀ g, v1.ownBlock = some g → v2.ownBlock ≠ some g) : ∀ g, (g = ga ∨ v1.ownBlock = some g) → g < w.heap.size ∧ g ≠ gb ∧ v2.ownBlock ≠ some g := by
  rintro g (rfl | hg)
  · exact ⟨ha.lt, blk_apart ha hb hAB, own_ne o2 ha h2⟩
  · exact ⟨(o1.lt g hg).2, fun e => own_ne o1 hb h1 (e ▸ hg), hd g hg⟩
/-- A row that neither chain turns. -/
theorem row_kept {w w' : World} {ga gb B B1 B2 : Nat} {csA csB : Array Value} {TA TB e e1 e2 : TypeId} {s s1 s2 n n1 n2 : Nat} {v v1 v2 : Value} {x x1 x2 : List Value} (hm : Mod (fun g => (g = ga ∨ v1.ownBlock = some g) ∨ (g = gb ∨ v2.ownBlock = some g)) w w')
    (ha : Blk w ga csA TA) (hb : Blk w gb csB TB) (o1 : w.ownsRow B1 e1 s1 v1 n1 x1) (o2 : w.ownsRow B2 e2 s2 v2 n2 x2) (h : w.ownsRow B e s v n x) (hA : TA ≠ e) (hB : TB ≠ e) (h1 : e ≠ e1) (h2 : e ≠ e2) : w'.ownsRow B e s v n x := by
  refine own_mod h hm (fun g hg hx => ?_)
  rcases hx with (rfl | hx) | (rfl | hx)
  · exact own_ne h ha hA hg
  · exact own_apart h o1 h1 g hg hx
  · exact own_ne h hb hB hg
  · exact own_apart h o2 h2 g hg hx
/-- .. nor a block. -/
theorem blk_kept {w w' : World} {g ga gb B1 B2 : Nat} {cs : Array Value} {T e1 e2 : TypeId} {s1 s2 n1 n2 : Nat} {v1 v2 : Value} {x1 x2 : List Value} (hm : Mod (fun g => (g = ga ∨ v1.ownBlock = some g) ∨ (g = gb ∨ v2.ownBlock = some g)) w w')
    (h : Blk w g cs T) (hga : g ≠ ga) (hgb : g ≠ gb) (o1 : w.ownsRow B1 e1 s1 v1 n1 x1) (o2 : w.ownsRow B2 e2 s2 v2 n2 x2) (h1 : T ≠ e1) (h2 : T ≠ e2) : Blk w' g cs T := by
  refine h.mod hm (fun hx => ?_)
  rcases hx with (e | hx) | (e | hx)
  · exact hga e
  · exact own_ne o1 h h1 hx
  · exact hgb e
  · exact own_ne o2 h h2 hx
def sflat (L : List Sb) : List Value := L.flatMap fun x => (sbA x).toList
theorem sflat_snoc (L : List Sb) (x : Sb) : sflat (L ++ [x]) = sflat L ++ (sbA x).toList := by simp [sflat]
/-- Both packets. -/
structure Two (B : Nat) (w : World) (ga gb : Nat) (q : Pk) (m1 m2 : Hs) : Prop where
  a : Blk w ga (pkA .u8 q m1) 38
  b : Blk w gb (pkA .i64 q m2) 45
  p1 : w.ownsRow B 99 4 m1.p.v q.ps.length (flat q.ps)
  p2 : w.ownsRow B 100 4 m2.p.v q.ps.length (flat q.ps)
  w1 : w.ownsRow B 99 4 m1.w.v q.wps.length (flat q.wps)
  w2 : w.ownsRow B 100 4 m2.w.v q.wps.length (flat q.wps)
  c1 : w.ownsRow B 31 1 m1.c.v q.codes.length (q.codes.map (Value.int .u8))
  c2 : w.ownsRow B 3 1 m2.c.v q.codes.length (q.codes.map (Value.int .i64))
  s1 : w.ownsRow B 63 5 m1.s.v q.subs.length (sflat q.subs)
  s2 : w.ownsRow B 64 5 m2.s.v q.subs.length (sflat q.subs)
  f1 : w.ownsRow B 9 1 m1.f.v q.filters.length (q.filters.map Value.string)
  f2 : w.ownsRow B 9 1 m2.f.v q.filters.length (q.filters.map Value.string)
  ff : ∀ g, m1.f.v.ownBlock = some g → m2.f.v.ownBlock ≠ some g
theorem new_hd {c : Ch} {H0 : Nat} {v : Value} {w : World} (h : c.New H0 v w) : v = (hdOf v).v := (own_hd h.2.1).1
theorem own_cast {w : World} {B : Nat} {e : TypeId} {s n n' : Nat} {v v' : Value} {xs xs' : List Value} (h : w.ownsRow B e s v n xs) (hv : v = v') (hn : n = n') (hx : xs = xs') : w.ownsRow B e s v' n' xs' := by subst hv hn hx; exact h
theorem two_codes {B : Nat} {w w' : World} {ga gb : Nat} {q : Pk} {m1 m2 : Hs} {c : Int} {v1 v2 : Value} (h : Two B w ga gb q m1 m2)
    (hm : Mod (fun g => (g = ga ∨ m1.c.v.ownBlock = some g) ∨ (g = gb ∨ m2.c.v.ownBlock = some g)) w w')
    (ha : Blk w' ga ((pkA .u8 q m1).setIfInBounds 8 v1) 38) (n1 : w'.ownsRow B 31 1 v1 (q.codes.length + 1) (q.codes.map (Value.int .u8) ++ [Value.int .u8 c]))
    (hb : Blk w' gb ((pkA .i64 q m2).setIfInBounds 8 v2) 45) (n2 : w'.ownsRow B 3 1 v2 (q.codes.length + 1) (q.codes.map (Value.int .i64) ++ [Value.int .i64 c])) :
    Two B w' ga gb { q with codes := q.codes ++ [c] } { m1 with c := hdOf v1 } { m2 with c := hdOf v2 } := by
  have e1 := (own_hd n1).1
  have e2 := (own_hd n2).1
  have k : ∀ {e : TypeId} {s n : Nat} {v : Value} {x : List Value}, w.ownsRow B e s v n x → 38 ≠ e → 45 ≠ e → e ≠ 31 → e ≠ 3 → w'.ownsRow B e s v n x :=
    fun o a1 a2 a3 a4 => row_kept hm h.a h.b h.c1 h.c2 o a1 a2 a3 a4
  refine ⟨?_, ?_, k h.p1 (by decide) (by decide) (by decide) (by decide), k h.p2 (by decide) (by decide) (by decide) (by decide), k h.w1 (by decide) (by decide) (by decide) (by decide), k h.w2 (by decide) (by decide) (by decide) (by decide), ?_, ?_, k h.s1 (by decide) (by decide) (by decide) (by decide), k h.s2 (by decide) (by decide) (by decide) (by decide), k h.f1 (by decide) (by decide) (by decide) (by decide), k h.f2 (by decide) (by decide) (by decide) (by decide), h.ff⟩
  · rw [e1] at ha; exact ha
  · rw [e2] at hb; exact hb
  · exact own_cast n1 e1 (by simp) (by simp)
  · exact own_cast n2 e2 (by simp) (by simp)
theorem two_subs {B : Nat} {w w' : World} {ga gb : Nat} {q : Pk} {m1 m2 : Hs} {c : Sb} {v1 v2 : Value} (h : Two B w ga gb q m1 m2)
    (hm : Mod (fun g => (g = ga ∨ m1.s.v.ownBlock = some g) ∨ (g = gb ∨ m2.s.v.ownBlock = some g)) w w')
    (ha : Blk w' ga ((pkA .u8 q m1).setIfInBounds 24 v1) 38) (n1 : w'.ownsRow B 63 5 v1 (q.subs.length + 1) (sflat q.subs ++ (sbA c).toList))
    (hb : Blk w' gb ((pkA .i64 q m2).setIfInBounds 24 v2) 45) (n2 : w'.ownsRow B 64 5 v2 (q.subs.length + 1) (sflat q.subs ++ (sbA c).toList)) :
    Two B w' ga gb { q with subs := q.subs ++ [c] } { m1 with s := hdOf v1 } { m2 with s := hdOf v2 } := by
  have e1 := (own_hd n1).1
  have e2 := (own_hd n2).1
  have k : ∀ {e : TypeId} {s n : Nat} {v : Value} {x : List Value}, w.ownsRow B e s v n x → 38 ≠ e → 45 ≠ e → e ≠ 63 → e ≠ 64 → w'.ownsRow B e s v n x :=
    fun o a1 a2 a3 a4 => row_kept hm h.a h.b h.s1 h.s2 o a1 a2 a3 a4
  refine ⟨?_, ?_, k h.p1 (by decide) (by decide) (by decide) (by decide), k h.p2 (by decide) (by decide) (by decide) (by decide), k h.w1 (by decide) (by decide) (by decide) (by decide), k h.w2 (by decide) (by decide) (by decide) (by decide), k h.c1 (by decide) (by decide) (by decide) (by decide), k h.c2 (by decide) (by decide) (by decide) (by decide), ?_, ?_, k h.f1 (by decide) (by decide) (by decide) (by decide), k h.f2 (by decide) (by decide) (by decide) (by decide), h.ff⟩
  · rw [e1] at ha; exact ha
  · rw [e2] at hb; exact hb
  · exact own_cast n1 e1 (by simp) (by rw [sflat_snoc])
  · exact own_cast n2 e2 (by simp) (by rw [sflat_snoc])
theorem two_filters {B H0 : Nat} {w w' : World} {ga gb : Nat} {q : Pk} {m1 m2 : Hs} {c : ByteArray} {v1 v2 : Value} (h : Two B w ga gb q m1 m2)
    (hm : Mod (fun g => (g = ga ∨ m1.f.v.ownBlock = some g) ∨ (g = gb ∨ m2.f.v.ownBlock = some g)) w w')
    (ha : Blk w' ga ((pkA .u8 q m1).setIfInBounds 25 v1) 38) (n1 : w'.ownsRow B 9 1 v1 (q.filters.length + 1) (q.filters.map Value.string ++ [Value.string c]))
    (hb : Blk w' gb ((pkA .i64 q m2).setIfInBounds 25 v2) 45) (n2 : w'.ownsRow B 9 1 v2 (q.filters.length + 1) (q.filters.map Value.string ++ [Value.string c])) (hd : ∀ g, v1.ownBlock = some g → v2.ownBlock ≠ some g) :
    Two B w' ga gb { q with filters := q.filters ++ [c] } { m1 with f := hdOf v1 } { m2 with f := hdOf v2 } := by
  have e1 := (own_hd n1).1
  have e2 := (own_hd n2).1
  have k : ∀ {e : TypeId} {s n : Nat} {v : Value} {x : List Value}, w.ownsRow B e s v n x → 38 ≠ e → 45 ≠ e → e ≠ 9 → w'.ownsRow B e s v n x :=
    fun o a1 a2 a3 => row_kept hm h.a h.b h.f1 h.f2 o a1 a2 a3 a3
  refine ⟨?_, ?_, k h.p1 (by decide) (by decide) (by decide), k h.p2 (by decide) (by decide) (by decide), k h.w1 (by decide) (by decide) (by decide), k h.w2 (by decide) (by decide) (by decide), k h.c1 (by decide) (by decide) (by decide), k h.c2 (by decide) (by decide) (by decide), k h.s1 (by decide) (by decide) (by decide), k h.s2 (by decide) (by decide) (by decide), ?_, ?_, ?_⟩
  · rw [e1] at ha; exact ha
  · rw [e2] at hb; exact hb
  · exact own_cast n1 e1 (by simp) (by simp)
  · exact own_cast n2 e2 (by simp) (by simp)
  · show ∀ g, (hdOf v1).v.ownBlock = some g → (hdOf v2).v.ownBlock ≠ some g
    rw [← e1, ← e2]; exact hd
/-! Read as a packet. -/
theorem own_ppr {w : World} {B n : Nat} {e : TypeId} {v : Value} {L : List Pp} (h : w.ownsRow B e 4 v n (flat L)) (hn : n = L.length) : PRow w (hdOf v).A L := by
  subst hn
  intro hp
  rcases h.2 with ⟨rfl, h0⟩ | ⟨g, cap, cur, rfl, _, hh, _⟩
  · omega
  · have hc := h.cells rfl
    refine ⟨g, 0, rfl, (h.lt g rfl).2, fun i p hi => ?_⟩
    have hf := fun j u (hu : (ppA p).toList[j]? = some u) => flat_at hi hu
    have ad : ∀ j, ((⟨g, 0, none⟩ : Addr).add j) = ⟨g, 0 + j, none⟩ := fun j => by unfold Addr.add; split <;> simp_all
    have := fun j u hu => (ad (i * 4 + j)) ▸ hc (i * 4 + j) u (hf j u hu)
    exact ⟨this 0 _ rfl, this 1 _ rfl, this 2 _ rfl, this 3 _ rfl⟩
theorem own_vrow {w : World} {B n : Nat} {e : TypeId} {v : Value} {L : List Value} (h : w.ownsRow B e 1 v n L) : VRow w (hdOf v).A L := by
  intro hp
  have hl := h.1
  rcases h.2 with ⟨rfl, h0⟩ | ⟨g, cap, cur, rfl, _, hh, _⟩
  · subst h0; omega
  · have hc := h.cells rfl
    refine ⟨g, 0, rfl, (h.lt g rfl).2, fun i p hi => ?_⟩
    have ad : ((⟨g, 0, none⟩ : Addr).add i) = ⟨g, 0 + i, none⟩ := by unfold Addr.add; split <;> simp_all
    exact ad ▸ hc i p hi
theorem sflat_cells {L : List Sb} : ∀ {i : Nat} {x : Sb}, L[i]? = some x → ∀ j u, (sbA x).toList[j]? = some u → (sflat L)[i * 5 + j]? = some u := by
  induction L with
  | nil => intro i x h; simp at h
  | cons y r ih =>
    intro i x h j u hu
    have hj : j < 5 := (List.getElem?_eq_some_iff.1 hu).1
    show ((sbA y).toList ++ sflat r)[i * 5 + j]? = some u
    have hy : (sbA y).toList.length = 5 := rfl
    cases i with
    | zero =>
      obtain rfl : y = x := by simpa using h
      rw [Nat.zero_mul, Nat.zero_add, List.getElem?_append_left (by omega)]
      exact hu
    | succ i =>
      rw [List.getElem?_append_right (by omega), hy, show (i + 1) * 5 + j - 5 = i * 5 + j from by omega]
      exact ih (by simpa using h) j u hu
theorem own_srow {w : World} {B n : Nat} {e : TypeId} {v : Value} {L : List Sb} (h : w.ownsRow B e 5 v n (sflat L)) (hn : n = L.length) : SbRow w (hdOf v).A L := by
  subst hn
  intro hp
  rcases h.2 with ⟨rfl, h0⟩ | ⟨g, cap, cur, rfl, _, hh, _⟩
  · omega
  · have hc := h.cells rfl
    refine ⟨g, 0, rfl, (h.lt g rfl).2, fun i p hi => ?_⟩
    have ad : ∀ j, ((⟨g, 0, none⟩ : Addr).add j) = ⟨g, 0 + j, none⟩ := fun j => by unfold Addr.add; split <;> simp_all
    have := fun j u hu => (ad (i * 5 + j)) ▸ hc (i * 5 + j) u (sflat_cells hi j u hu)
    exact ⟨this 0 _ rfl, this 1 _ rfl, this 2 _ rfl, this 3 _ rfl, this 4 _ rfl⟩
theorem hd_v (h : Hd) : hdOf h.v = h := rfl
theorem Two.in1 {B : Nat} {w : World} {ga gb : Nat} {q : Pk} {m1 m2 : Hs} (h : Two B w ga gb q m1 m2) (hf : q.fits) : PkIn .u8 w q m1 := by
  obtain ⟨_, p1, p2, _⟩ := own_hd h.p1
  obtain ⟨_, w1, w2, _⟩ := own_hd h.w1
  obtain ⟨_, c1, c2, _⟩ := own_hd h.c1
  obtain ⟨_, s1, s2, s3⟩ := own_hd h.s1
  obtain ⟨_, f1, f2, f3⟩ := own_hd h.f1
  rw [hd_v] at p1 p2 w1 w2 c1 c2 s1 s2 f1 f2 s3 f3
  exact ⟨hf, p1.symm, by omega, own_ppr h.p1 rfl, w1.symm, by omega, own_ppr h.w1 rfl, c1.symm, by omega, own_vrow h.c1, s1.symm, by omega, own_srow h.s1 rfl, f1.symm, by omega, own_vrow h.f1, s3, f3⟩
theorem Two.in2 {B : Nat} {w : World} {ga gb : Nat} {q : Pk} {m1 m2 : Hs} (h : Two B w ga gb q m1 m2) (hf : q.fits) : PkIn .i64 w q m2 := by
  obtain ⟨_, p1, p2, _⟩ := own_hd h.p2
  obtain ⟨_, w1, w2, _⟩ := own_hd h.w2
  obtain ⟨_, c1, c2, _⟩ := own_hd h.c2
  obtain ⟨_, s1, s2, s3⟩ := own_hd h.s2
  obtain ⟨_, f1, f2, f3⟩ := own_hd h.f2
  rw [hd_v] at p1 p2 w1 w2 c1 c2 s1 s2 f1 f2 s3 f3
  exact ⟨hf, p1.symm, by omega, own_ppr h.p2 rfl, w1.symm, by omega, own_ppr h.w2 rfl, c1.symm, by omega, own_vrow h.c2, s1.symm, by omega, own_srow h.s2 rfl, f1.symm, by omega, own_vrow h.f2, s3, f3⟩
end Go.Proofs.YtlnanenfpapfkaaDoor

/- The four operations of a chain, each shown from what the frame holds. Over whatever program. -/
namespace Go.Proofs.YtlnanenfpapfkaaDoor
set_option linter.unusedVariables false
open Go.RowKit

theorem cells_one {v : Value} (h : v.oneCell' = true) : v.cells = #[v] := by cases v <;> first | rfl | cases h
theorem run_storeAt_one {P : Program} {w : World} {ty : TypeId} {i : TypeInfo} {a : Addr} {v u : Value} (hi : P.info? ty = some i) (hs : i.size = 1) (hv : v.oneCell' = true) (hc : w.cell? a = some u) (hf : w.frozen? a = false) :
    (Instr.storeAt ty (.pointer (some a)) v).run P w = .ok () (w.setCell a v) := by
  have ha : a.add 0 = a := by simp [Addr.add]
  simp [Instr.storeAt, Instr.sureAddr, storeVar, sizeOf, typeInfo, hi, hs, cells_one hv, storeCells, ha, run_store _ _ _ _ _ hv, hc, hf]
theorem run_loadAt_slice {P : Program} {w : World} {ty e : TypeId} {a : Addr} {v : Value} (hu : P.underlying ty = some (.slice e)) (hc : w.cell? a = some v) :
    (Instr.loadAt ty (.pointer (some a))).run P w = .ok v w := by
  simp [Instr.loadAt, Instr.sureAddr, loadVar, isAgg, underlying, hu, run_load, hc]
theorem run_loadAt_row {P : Program} (w : World) (g : Nat) (t ty : TypeId) (cs : Array Value) (fr : Nat × Nat) (d : TypeDesc) (hg : w.heap[g]? = some (.cells cs t fr))
    (hu : P.underlying ty = some d) (hd : (match d with | .struct _ | .array _ _ => true | _ => false) = true) (hi : (P.info? ty).map (·.size) = some cs.size) :
    (Instr.loadAt ty (.pointer (some ⟨g, 0, none⟩))).run P w = .ok (.agg cs) w := by
  simp [Instr.loadAt, Instr.sureAddr, run_loadVar_row w g t ty cs fr d hg hu hd hi]
section
variable {P : Program} {ops : Array Oper} {D : List Nat} {a0 : Act}
theorem mk_load {i0 d1 t b k : Nat} {T e : TypeId} {v : Value} (o : Oper) (ho : ops[i0]? = some o) (hg : o.guard = none) (hd : o.dst = some d1) (hop : o.op = .load T (.tmp t)) (ht : t ∉ D) (hp : a0.eval (.tmp t) = .pointer (some ⟨b, k, none⟩)) (hu : P.underlying T = some (.slice e)) :
    ∃ o, ops[i0]? = some o ∧ o.guard = none ∧ o.dst = some d1 ∧ ∀ a w, Agr D a0 a → w.cell? ⟨b, k, none⟩ = some v → (execOp a.eval o).run P w = .ok (.value v) w := by
  refine ⟨o, ho, hg, hd, fun a w hag hc => ?_⟩
  have h := (hag.eval ht).trans hp
  unfold execOp
  simp only [hop, h, Sem.run_bind, run_loadAt_slice hu hc, Result.andThen_ok, Sem.run_pure]
theorem mk_make {i1 d2 t : Nat} {T e : TypeId} {i : TypeInfo} {z v : Value} {new : Array Value} (o : Oper) (ho : ops[i1]? = some o) (hg : o.guard = none) (hd : o.dst = some d2) (hop : o.op = .buildSlice T 1 #[(0, .tmp t)]) (ht : t ∉ D) (hp : a0.eval (.tmp t) = v)
    (hu : P.underlying T = some (.slice e)) (hi : P.info? e = some i) (hz : i.zero = some z) {sz : Nat} (hs : i.size = sz) (h1 : ¬ 1 * sz > 2 ^ 24) (hn : ¬ 1 * sz = 0) (hf : Instr.fill (fun k => some (k * sz, sz)) ((Array.range (1 * sz)).map (z.cells[· % z.cells.size]!)) [(0, v)] = some new) :
    ∃ o, ops[i1]? = some o ∧ o.guard = none ∧ o.dst = some d2 ∧ ∀ a w, Agr D a0 a → (execOp a.eval o).run P w = .ok (.value (.slice (some ⟨w.heap.size, 0, none⟩) 1 1)) (w.alloc (.cells new e)) := by
  subst hs
  refine ⟨o, ho, hg, hd, fun a w hag => ?_⟩
  have h := (hag.eval ht).trans hp
  unfold execOp
  simp only [hop, List.map_toArray, List.map_cons, List.map_nil, h, Sem.run_bind, run_buildSlice w T e 1 #[(0, v)] new i z hu hi hz h1 hn hf, Result.andThen_ok, Sem.run_pure]
theorem mk_fa {i3 d4 t b k s : Nat} {j : Nat} (o : Oper) (ho : ops[i3]? = some o) (hg : o.guard = none) (hd : o.dst = some d4) (hop : o.op = .fieldAddr s (.tmp t) j) (ht : t ∉ D) (hp : a0.eval (.tmp t) = .pointer (some ⟨b, 0, none⟩)) (h : ∀ w, (Instr.fieldAt s (.pointer (some ⟨b, 0, none⟩)) j).run P w = .ok (.pointer (some ⟨b, k, none⟩)) w) :
    ∃ o, ops[i3]? = some o ∧ o.guard = none ∧ o.dst = some d4 ∧ ∀ a w, Agr D a0 a → (execOp a.eval o).run P w = .ok (.value (.pointer (some ⟨b, k, none⟩))) w := by
  refine ⟨o, ho, hg, hd, fun a w hag => ?_⟩
  have hh := (hag.eval ht).trans hp
  unfold execOp
  simp only [hop, hh, h, Sem.run_bind, Result.andThen_ok, Sem.run_pure]
theorem mk_put {i4 d3 d4 b k : Nat} {T : TypeId} {i : TypeInfo} (o : Oper) (ho : ops[i4]? = some o) (hg : o.guard = none) (hd : o.dst = none) (hop : o.op = .store T (.tmp d4) (.tmp d3)) (hi : P.info? T = some i) (hs : i.size = 1) :
    ∃ o, ops[i4]? = some o ∧ o.guard = none ∧ o.dst = none ∧ ∀ (a : Act) (w : World) (v u : Value), a.eval (.tmp d4) = .pointer (some ⟨b, k, none⟩) → a.eval (.tmp d3) = v → v.oneCell' = true → w.cell? ⟨b, k, none⟩ = some u → w.frozen? ⟨b, k, none⟩ = false → (execOp a.eval o).run P w = .ok .skip (w.setCell ⟨b, k, none⟩ v) := by
  refine ⟨o, ho, hg, hd, fun a w v u h hv h1 hc hf => ?_⟩
  unfold execOp
  simp only [hop, h, hv, Sem.run_bind, run_storeAt_one hi hs h1 hc hf, Result.andThen_ok, Sem.run_pure]
theorem range_one : Array.range (1 * 1) = #[0] := by rfl
theorem fill_one {z v : Value} (h : v.oneCell' = true) : Instr.fill (fun k => some (k * 1, 1)) ((Array.range (1 * 1)).map (z.cells[· % z.cells.size]!)) [(0, v)] = some #[v] := by
  have hc : v.cells = #[v] := by cases v <;> first | rfl | cases h
  rw [range_one]
  simp [Instr.fill, hc]
theorem fill_five {z v a b c d e : Value} (h : v.cells = #[a, b, c, d, e]) : Instr.fill (fun k => some (k * 5, 5)) ((Array.range (1 * 5)).map (z.cells[· % z.cells.size]!)) [(0, v)] = some #[a, b, c, d, e] := by
  have hr : Array.range (1 * 5) = #[0, 1, 2, 3, 4] := by rfl
  rw [hr]
  simp [Instr.fill, h]
/-! Pure operations, yielding whatever the world. -/
theorem y_field {S : World → Prop} {a : Act} {s t b k : Nat} {j : Nat} (o : Oper) (hg : o.guard = none) (hop : o.op = .fieldAddr s (.tmp t) j) (ht : a.eval (.tmp t) = .pointer (some ⟨b, 0, none⟩)) (h : ∀ w, (Instr.fieldAt s (.pointer (some ⟨b, 0, none⟩)) j).run P w = .ok (.pointer (some ⟨b, k, none⟩)) w) :
    YieldsIf P ops S o (.pointer (some ⟨b, k, none⟩)) a := by
  refine Or.inl ⟨by simp [Region.wanted, hg], fun w _ => ?_⟩
  unfold execOp
  simp only [hop, ht, Sem.run_bind, h, Result.andThen_ok, Sem.run_pure]
theorem y_move {S : World → Prop} {a : Act} {t : Nat} {v : Value} (o : Oper) (hg : o.guard = none) (hop : o.op = .move (.tmp t)) (ht : a.eval (.tmp t) = v) : YieldsIf P ops S o v a := by
  refine Or.inl ⟨by simp [Region.wanted, hg], fun w _ => ?_⟩
  unfold execOp
  simp only [hop, ht, Sem.run_pure]
theorem y_load {S : World → Prop} {a : Act} {t b : Nat} {T : TypeId} {cs : Array Value} (o : Oper) (hg : o.guard = none) (hop : o.op = .load T (.tmp t)) (ht : a.eval (.tmp t) = .pointer (some ⟨b, 0, none⟩)) (h : ∀ w, S w → (Instr.loadAt T (.pointer (some ⟨b, 0, none⟩))).run P w = .ok (.agg cs) w) : YieldsIf P ops S o (.agg cs) a := by
  refine Or.inl ⟨by simp [Region.wanted, hg], fun w hw => ?_⟩
  unfold execOp
  simp only [hop, ht, Sem.run_bind, h w hw, Result.andThen_ok, Sem.run_pure]
theorem y_conv {S : World → Prop} {a : Act} {t : Nat} {s d : TypeId} {v u : Value} (o : Oper) (hg : o.guard = none) (hop : o.op = .convert s d (.tmp t)) (ht : a.eval (.tmp t) = u) (h : ∀ w, (convert s d u).run P w = .ok v w) : YieldsIf P ops S o v a := by
  refine Or.inl ⟨by simp [Region.wanted, hg], fun w _ => ?_⟩
  unfold execOp
  simp only [hop, ht, Sem.run_bind, h, Result.andThen_ok, Sem.run_pure]
theorem wpAnyH_takeD {Q : Exit → Act → World → Prop} {md : Region.Mode} {S : World → Prop} {i d : Nat} {oi : Oper} {v : Value} {fuel : Nat} {listed : Array Bool} {a : Act} {w : World} (hi : ops[i]? = some oi) (hd : oi.dst = some d)
    (hs : Region.noSelect ops = true) (hf : Region.free md ops listed i = true) (hr : (Region.ready md ops listed).contains i = true)
    (hQ : ∀ c a w, Q (.panic c) (a.put (some d) v) w → Q (.panic c) a w) (hy : YieldsIf P ops S oi v a) (hS : S w)
    (h : wpAnyH P md ops Q S fuel (listed.setIfInBounds i true) (a.put (some d) v) w) : wpAnyH P md ops Q S (fuel + 1) listed a w :=
  wpAnyH_take hi hs hf hr (by rw [hd]; exact hQ) hy hS (by rw [hd]; exact h)
end
end Go.Proofs.YtlnanenfpapfkaaDoor

/- Appending properties in a drawn region. -/
namespace Go.Proofs.YtlnanenfpapfkaaDoor
set_option linter.unusedVariables false
open Go.RowKit

theorem heap_under {w : World} {C : Nat} {x o : Obj} (h : w.heap[C]? = some x) : (w.alloc o).heap[C]? = some x := by
  have hl := (Array.getElem?_eq_some_iff.1 h).1
  show (w.heap.push o)[C]? = _
  rw [Array.getElem?_push, if_neg (by omega)]
  exact h
theorem heap_new' {w : World} {C : Nat} {o : Obj} (h : C = w.heap.size) : (w.alloc o).heap[C]? = some o := by subst h; exact heap_alloc_new w o
/-- A row of another type than the one that was appended to is as it was. -/
theorem own_far {w w' : World} {base size size' n n' : Nat} {e e' : TypeId} {v v' : Value} {xs xs' : List Value} (h : w.ownsRow base e size v n xs) (h2 : w.ownsRow base e' size' v' n' xs') (he : e ≠ e') (hg : w.grownBy w' v'.ownBlock) : w'.ownsRow base e size v n xs := by
  refine ⟨h.1, ?_⟩
  rcases h.2 with h0 | ⟨g, cap, cur, rfl, hb, hh, hrest⟩
  · exact .inl h0
  · refine .inr ⟨g, cap, cur, rfl, hb, ?_, hrest⟩
    rw [hg.block g (h.lt g rfl).2 ?_]
    · exact hh
    · intro e0
      rcases h2.2 with ⟨rfl, _⟩ | ⟨g2, cap2, cur2, rfl, _, hh2, _⟩
      · cases e0
      · have : g = g2 := by simpa [Value.ownBlock] using e0
        subst this
        rw [hh] at hh2
        injection hh2 with hh2
        injection hh2 with _ h3 _
        exact he h3
theorem step_push4 {P : Program} {X : World} {ops : Array Oper} {o : Oper} {a : Act} {K : Act → World → Prop} {Q : Exit → Act → World → Prop} {E : Prop} (hgd : o.guard = none) (s x : Operand) (t e : TypeId)
    (ho : o.op = .call { callee := .builtin .append, args := #[s, x], argTypes := #[t, t] }) (i : TypeInfo) (z : Value)
    (ht : P.underlying t = some (.slice e)) (hi : P.info? e = some i) (hz : i.zero = some z) (hsize : i.size = 4) (hby : i.bytes = 48) (hzs : z.cells.size = 4)
    (base : Nat) (v : Value) (n : Nat) (xs : List Value) (p : Pp) (C : Nat) (hs : a.eval s = v) (hx : a.eval x = .slice (some ⟨C, 0, none⟩) 1 1)
    (hown : X.ownsRow base e 4 v n xs) (hb : X.heap[C]? = some (.cells (ppA p) e (0, 0))) (hbase : base ≤ X.heap.size) (hn : n ≤ 80)
    (h : ∀ v' w', w'.ownsRow base e 4 v' (n + 1) (xs ++ (ppA p).toList) → X.grownBy w' v.ownBlock → K (a.put o.dst v') w') :
    if Region.wanted o (yielded ops a.tmps) = true then Oper.wp P o a X K Q else E :=
  step_append_lies X hgd s x t ho base e i z 4 48 ht hi hz hsize hby hzs (by decide) v n xs hs hown ⟨C, 0, none⟩ 1 1 (ppA p).toList hx rfl (World.news_of_block hb)
    (by intro u hu; simp [ppA] at hu; rcases hu with rfl | rfl | rfl | rfl <;> rfl) (by decide) (by unfold maxLen; omega) (by omega) hbase _ rfl (fun g cap w' h1 h2 _ _ => h _ w' h1 h2)
theorem info_p1 : (Tryd.prog.info? 99).map (fun i => (i.zero, i.size, i.bytes)) = some (some (.agg #[.int .i64 0, .int .i64 0, .string ⟨#[]⟩, .string ⟨#[]⟩]), 4, 48) := by kernel_rfl
theorem info_p2 : (Tryd.prog.info? 100).map (fun i => (i.zero, i.size, i.bytes)) = some (some (.agg #[.int .i64 0, .int .i64 0, .string ⟨#[]⟩, .string ⟨#[]⟩]), 4, 48) := by kernel_rfl
abbrev S4b (X : World) (B : Nat) (p : Pp) : Prop := X.cell? ⟨B, 0, none⟩ = some (.int .i64 p.id) ∧ X.cell? ⟨B, 1, none⟩ = some (.int .i64 p.n) ∧ X.cell? ⟨B, 2, none⟩ = some (.string p.s) ∧ X.cell? ⟨B, 3, none⟩ = some (.string p.t)

theorem s4b_alloc {X : World} {B : Nat} {p : Pp} {o : Obj} (h : S4b X B p) (hB : B < X.heap.size) : S4b (X.alloc o) B p :=
  ⟨(World.cell?_alloc_past _ _ _ hB).trans h.1, (World.cell?_alloc_past _ _ _ hB).trans h.2.1, (World.cell?_alloc_past _ _ _ hB).trans h.2.2.1, (World.cell?_alloc_past _ _ _ hB).trans h.2.2.2⟩
theorem s4b_grown {X Y : World} {B : Nat} {p : Pp} {row : Option Nat} (h : S4b X B p) (hB : B < X.heap.size) (hg : X.grownBy Y row) (hr : ∀ g, row = some g → g < B) : S4b Y B p := by
  have e : ∀ i, Y.cell? ⟨B, i, none⟩ = X.cell? ⟨B, i, none⟩ := fun i => hg.cell_far ⟨B, i, none⟩ hB (fun e => by have := hr B e.symm; omega)
  exact ⟨(e 0).trans h.1, (e 1).trans h.2.1, (e 2).trans h.2.2.1, (e 3).trans h.2.2.2⟩
theorem flat_take {L : List Pp} {k : Nat} {p : Pp} (hp : L[k]? = some p) : flat (L.take (k + 1)) = flat (L.take k) ++ (ppA p).toList := by
  rw [List.take_add_one, hp, flat_snoc]; rfl
end Go.Proofs.YtlnanenfpapfkaaDoor

/- The walk of the laws' props. -/
namespace Go.Proofs.YtlnanenfpapfkaaDoor
set_option linter.unusedVariables false
open Go.RowKit

set_option maxHeartbeats 4000000 in
theorem props_any (A : Option Addr) (n cap M : Nat) (L : List Pp) (w : World) (hn : L.length = n) (hc : n ≤ cap) (hcm : cap ≤ maxLen) (h : PRow w A L) (hM : min n 80 = M) (hA : (A = none ∧ cap = 0) ∨ ∃ a, A = some a) :
    Calls Tryd.prog 13 #[.slice A n cap] w fun e w' => ∃ v1 v2, e = .returned (.tuple #[v1, v2]) ∧ w'.ownsRow w.heap.size 99 4 v1 M (flat (L.take M)) ∧ w'.ownsRow w.heap.size 100 4 v2 M (flat (L.take M)) ∧ Below w.heap.size w w' := by
  have hMI : min (n : Int) 80 = (M : Int) := by omega
  have hMn : M ≤ n := by omega
  have hM80 : M ≤ 80 := by omega
  have hMc : M ≤ cap := by omega
  have hMcI : (M : Int) ≤ (cap : Int) := by omega
  have H := Lib.hid h
  have HN := Lib.hid hn
  unfold maxLen at hcm
  clear h hn hM
  rcases hA with ⟨rfl, rfl⟩ | ⟨a, rfl⟩
  · obtain rfl : n = 0 := by omega
    obtain rfl : M = 0 := by omega
    have h080 : min (0 : Int) 80 = 0 := by decide
    clear hMI
    go_enter Tryd.func13, Tryd.ntmps13
    go_wp2
    go_loopw [4, 5, 14] (fun v1 v2 i wr => ∃ k : Nat, i = .int .i64 k ∧ k ≤ 0 ∧ wr.ownsRow w.heap.size 99 4 v1 k (flat (L.take k)) ∧ wr.ownsRow w.heap.size 100 4 v2 k (flat (L.take k)) ∧ Below w.heap.size w wr) (fun _ _ i _ => 0 - (intOf i).toNat)
    case atStart => exact ⟨0, rfl, by omega, World.ownsRow_nil _ _ _ _, World.ownsRow_nil _ _ _ _, Below.refl _ _⟩
    case round =>
      obtain ⟨k, rfl, hk, own1, own2, hbel⟩ := hrel
      by_cases hlt : k < 0
      · omega
      · obtain rfl : k = 0 := by omega
        go_wp2
        go_ret2
        exact ⟨_, _, rfl, own1, own2, hbel⟩
  · by_cases hle : n ≤ 80
    · have hMn' : M = n := by omega
      subst hMn'
      have hleI : (M : Int) ≤ 80 := by omega
      clear hMI
      go_enter Tryd.func13, Tryd.ntmps13
      go_wp2
      go_loopw [4, 5, 14] (fun v1 v2 i wr => ∃ k : Nat, i = .int .i64 k ∧ k ≤ M ∧ wr.ownsRow w.heap.size 99 4 v1 k (flat (L.take k)) ∧ wr.ownsRow w.heap.size 100 4 v2 k (flat (L.take k)) ∧ Below w.heap.size w wr) (fun _ _ i _ => M - (intOf i).toNat)
      case atStart => exact ⟨0, rfl, by omega, World.ownsRow_nil _ _ _ _, World.ownsRow_nil _ _ _ _, Below.refl _ _⟩
      case round =>
        obtain ⟨k, rfl, hk, own1, own2, hbel⟩ := hrel
        by_cases hlt : k < M
        · obtain ⟨b, o, e0, hl, hcl⟩ := (H.out.below hbel) (by rw [HN.out]; omega)
          injection e0 with e0
          subst e0
          obtain ⟨p, hp⟩ : ∃ p, L[k]? = some p := ⟨_, List.getElem?_eq_getElem (by rw [HN.out]; omega)⟩
          obtain ⟨c0, c1, c2, c3⟩ := hcl k p hp
          have hkM : (k : Int) < (M : Int) := by omega
          clear hcl
          go_wp2
          have hB : Below w.heap.size w (wr.alloc (.cells (ppA p) 98)) := hbel.alloc hbel.size _
          have q1 := own1.alloc (.cells (ppA p) 98)
          have q2 := own2.alloc (.cells (ppA p) 98)
          have hs0 : S4b (wr.alloc (.cells (ppA p) 98)) wr.heap.size p := ⟨World.cell?_alloc_at _ _ _ _ rfl, World.cell?_alloc_at _ _ _ _ rfl, World.cell?_alloc_at _ _ _ _ rfl, World.cell?_alloc_at _ _ _ _ rfl⟩
          have hlt1 : ∀ g, u4.ownBlock = some g → g < wr.heap.size := fun g hg => (own1.lt g hg).2
          have hsz : wr.heap.size < (wr.alloc (.cells (ppA p) 98)).heap.size := by simp
          obtain ⟨Y, hY⟩ : ∃ Y, wr.alloc (.cells (ppA p) 98) = Y := ⟨_, rfl⟩
          change Code.wp _ _ _ _ (wr.alloc (.cells (ppA p) 98))
          rw [hY] at hB q1 q2 hs0 hsz ⊢
          clear hY c0 c1 c2 c3
          have hs1 : S4b Y.drew wr.heap.size p := hs0
          have d1 : Y.drew.ownsRow w.heap.size 99 4 u4 k (flat (L.take k)) := q1
          have d2 : Y.drew.ownsRow w.heap.size 100 4 u5 k (flat (L.take k)) := q2
          have hz1 : w.heap.size ≤ Y.heap.size := hB.size
          have hlt2 : ∀ g, u5.ownBlock = some g → g < wr.heap.size := fun g hg => (own2.lt g hg).2
          have hsd : wr.heap.size < Y.drew.heap.size := hsz
          obtain ⟨i1, hi1, hi1z, hi1s, hi1b⟩ := info_parts info_p1
          obtain ⟨i2, hi2, hi2z, hi2s, hi2b⟩ := info_parts info_p2
          go_region_held3 (fun X => S4b X wr.heap.size p) (first | (with_reducible assumption) | (exact s4b_alloc hs1 hsd) | (exact s4b_alloc (s4b_alloc hs1 hsd) (by first | omega | (simp; omega) | (simp; done))) | (exact s4b_alloc hsw hsz2)) (first | ((refine step_push4 (by rfl) (.tmp 18) (.tmp 20) 33 99 (by rfl) i1 _ Tryd.underlying33 hi1 hi1z hi1s hi1b rfl w.heap.size u4 k (flat (L.take k)) p _ (by rfl) (by rfl) (by first | exact d1.alloc _ | exact (d1.alloc _).alloc _) (by first | exact heap_new' (by first | rfl | (simp; done)) | exact heap_under (heap_new' (by first | rfl | (simp; done))) | exact hbk _ _ (heap_new' (by first | rfl | (simp; done))) (by first | omega | (simp; omega) | (simp; done)) | exact hbk _ _ (heap_under (heap_new' (by first | rfl | (simp; done)))) (by first | omega | (simp; omega) | (simp; done))) (by first | omega | (simp; omega) | (simp; done)) (by omega) ?_; intro v1 w1 n1 hg1; have n2 : w1.ownsRow w.heap.size 100 4 u5 k (flat (L.take k)) := own_far (by first | exact d2.alloc _ | exact (d2.alloc _).alloc _) (by first | exact d1.alloc _ | exact (d1.alloc _).alloc _) (by decide) hg1; have hbk : ∀ C obj, _ → wr.heap.size < C → w1.heap[C]? = some obj := fun C obj hC hl => (hg1.block C (Array.getElem?_eq_some_iff.1 hC).1 (fun e => absurd (hlt1 C e.symm) (by omega))).trans hC; have hw1 : Below w.heap.size w w1 := Below.grown (by first | exact (hB.drew.alloc (by simpa using hz1) _) | exact ((hB.drew.alloc (by simpa using hz1) _).alloc (by first | omega | (simp; omega) | (simp; done)) _)) hg1 (by first | omega | (simp; omega) | (simp; done)) (fun g hg => (d1.lt g hg).1); have hsw : S4b w1 wr.heap.size p := s4b_grown (by first | exact s4b_alloc hs1 hsd | exact s4b_alloc (s4b_alloc hs1 hsd) (by first | omega | (simp; omega) | (simp; done))) (by first | omega | (simp; omega) | (simp; done)) hg1 hlt1; have hsz2 : wr.heap.size < w1.heap.size := Nat.lt_of_lt_of_le (by first | omega | (simp; omega) | (simp; done)) hg1.size; have hz2 := hw1.size)) | ((refine step_push4 (by rfl) (.tmp 22) (.tmp 24) 40 100 (by rfl) i2 _ Tryd.underlying40 hi2 hi2z hi2s hi2b rfl w.heap.size u5 k (flat (L.take k)) p _ (by rfl) (by rfl) (by first | exact n2 | exact n2.alloc _) (by first | exact heap_new' (by first | rfl | (simp; done)) | exact heap_under (heap_new' (by first | rfl | (simp; done))) | exact hbk _ _ (heap_new' (by first | rfl | (simp; done))) (by first | omega | (simp; omega) | (simp; done)) | exact hbk _ _ (heap_under (heap_new' (by first | rfl | (simp; done)))) (by first | omega | (simp; omega) | (simp; done))) (by first | omega | (simp; omega) | (simp; done)) (by omega) ?_; intro v2 w2 m2 hg2; have m1 : w2.ownsRow w.heap.size 99 4 v1 (k + 1) _ := own_far (by first | exact n1 | exact n1.alloc _) (by first | exact n2 | exact n2.alloc _) (by decide) hg2; have hw2 : Below w.heap.size w w2 := Below.grown (by first | exact hw1 | exact hw1.alloc hz2 _) hg2 (by first | omega | (simp; omega) | (simp; done)) (fun g hg => (n2.lt g hg).1); have hsw2 : S4b w2 wr.heap.size p := s4b_grown (by first | exact hsw | exact s4b_alloc hsw hsz2) (by first | exact hsz2 | (simp; omega)) hg2 hlt2)))
          all_goals go_wp2
          all_goals
            go_roundw
            case rel => exact ⟨k + 1, by go_num, by omega, by rw [flat_take hp]; exact m1, by rw [flat_take hp]; exact m2, hw2⟩
            case measure => simp [intOf]; omega

        · have hkM : k = M := by omega
          subst hkM
          go_wp2
          go_ret2
          exact ⟨_, _, rfl, own1, own2, hbel⟩
    · have hM8 : M = 80 := by omega
      subst hM8
      have hleI : ¬ (n : Int) ≤ 80 := by omega
      have hmx : max (80 : Int) 0 = 80 := by decide
      clear hMI
      go_enter Tryd.func13, Tryd.ntmps13
      go_wp2
      go_loopw [4, 5, 14] (fun v1 v2 i wr => ∃ k : Nat, i = .int .i64 k ∧ k ≤ 80 ∧ wr.ownsRow w.heap.size 99 4 v1 k (flat (L.take k)) ∧ wr.ownsRow w.heap.size 100 4 v2 k (flat (L.take k)) ∧ Below w.heap.size w wr) (fun _ _ i _ => 80 - (intOf i).toNat)
      case atStart => exact ⟨0, rfl, by omega, World.ownsRow_nil _ _ _ _, World.ownsRow_nil _ _ _ _, Below.refl _ _⟩
      case round =>
        obtain ⟨k, rfl, hk, own1, own2, hbel⟩ := hrel
        by_cases hlt : k < 80
        · obtain ⟨b, o, e0, hl, hcl⟩ := (H.out.below hbel) (by rw [HN.out]; omega)
          injection e0 with e0
          subst e0
          obtain ⟨p, hp⟩ : ∃ p, L[k]? = some p := ⟨_, List.getElem?_eq_getElem (by rw [HN.out]; omega)⟩
          obtain ⟨c0, c1, c2, c3⟩ := hcl k p hp
          have hkM : (k : Int) < 80 := by omega
          clear hcl
          go_wp2
          have hB : Below w.heap.size w (wr.alloc (.cells (ppA p) 98)) := hbel.alloc hbel.size _
          have q1 := own1.alloc (.cells (ppA p) 98)
          have q2 := own2.alloc (.cells (ppA p) 98)
          have hs0 : S4b (wr.alloc (.cells (ppA p) 98)) wr.heap.size p := ⟨World.cell?_alloc_at _ _ _ _ rfl, World.cell?_alloc_at _ _ _ _ rfl, World.cell?_alloc_at _ _ _ _ rfl, World.cell?_alloc_at _ _ _ _ rfl⟩
          have hlt1 : ∀ g, u4.ownBlock = some g → g < wr.heap.size := fun g hg => (own1.lt g hg).2
          have hsz : wr.heap.size < (wr.alloc (.cells (ppA p) 98)).heap.size := by simp
          obtain ⟨Y, hY⟩ : ∃ Y, wr.alloc (.cells (ppA p) 98) = Y := ⟨_, rfl⟩
          change Code.wp _ _ _ _ (wr.alloc (.cells (ppA p) 98))
          rw [hY] at hB q1 q2 hs0 hsz ⊢
          clear hY c0 c1 c2 c3
          have hs1 : S4b Y.drew wr.heap.size p := hs0
          have d1 : Y.drew.ownsRow w.heap.size 99 4 u4 k (flat (L.take k)) := q1
          have d2 : Y.drew.ownsRow w.heap.size 100 4 u5 k (flat (L.take k)) := q2
          have hz1 : w.heap.size ≤ Y.heap.size := hB.size
          have hlt2 : ∀ g, u5.ownBlock = some g → g < wr.heap.size := fun g hg => (own2.lt g hg).2
          have hsd : wr.heap.size < Y.drew.heap.size := hsz
          obtain ⟨i1, hi1, hi1z, hi1s, hi1b⟩ := info_parts info_p1
          obtain ⟨i2, hi2, hi2z, hi2s, hi2b⟩ := info_parts info_p2
          go_region_held3 (fun X => S4b X wr.heap.size p) (first | (with_reducible assumption) | (exact s4b_alloc hs1 hsd) | (exact s4b_alloc (s4b_alloc hs1 hsd) (by first | omega | (simp; omega) | (simp; done))) | (exact s4b_alloc hsw hsz2)) (first | ((refine step_push4 (by rfl) (.tmp 18) (.tmp 20) 33 99 (by rfl) i1 _ Tryd.underlying33 hi1 hi1z hi1s hi1b rfl w.heap.size u4 k (flat (L.take k)) p _ (by rfl) (by rfl) (by first | exact d1.alloc _ | exact (d1.alloc _).alloc _) (by first | exact heap_new' (by first | rfl | (simp; done)) | exact heap_under (heap_new' (by first | rfl | (simp; done))) | exact hbk _ _ (heap_new' (by first | rfl | (simp; done))) (by first | omega | (simp; omega) | (simp; done)) | exact hbk _ _ (heap_under (heap_new' (by first | rfl | (simp; done)))) (by first | omega | (simp; omega) | (simp; done))) (by first | omega | (simp; omega) | (simp; done)) (by omega) ?_; intro v1 w1 n1 hg1; have n2 : w1.ownsRow w.heap.size 100 4 u5 k (flat (L.take k)) := own_far (by first | exact d2.alloc _ | exact (d2.alloc _).alloc _) (by first | exact d1.alloc _ | exact (d1.alloc _).alloc _) (by decide) hg1; have hbk : ∀ C obj, _ → wr.heap.size < C → w1.heap[C]? = some obj := fun C obj hC hl => (hg1.block C (Array.getElem?_eq_some_iff.1 hC).1 (fun e => absurd (hlt1 C e.symm) (by omega))).trans hC; have hw1 : Below w.heap.size w w1 := Below.grown (by first | exact (hB.drew.alloc (by simpa using hz1) _) | exact ((hB.drew.alloc (by simpa using hz1) _).alloc (by first | omega | (simp; omega) | (simp; done)) _)) hg1 (by first | omega | (simp; omega) | (simp; done)) (fun g hg => (d1.lt g hg).1); have hsw : S4b w1 wr.heap.size p := s4b_grown (by first | exact s4b_alloc hs1 hsd | exact s4b_alloc (s4b_alloc hs1 hsd) (by first | omega | (simp; omega) | (simp; done))) (by first | omega | (simp; omega) | (simp; done)) hg1 hlt1; have hsz2 : wr.heap.size < w1.heap.size := Nat.lt_of_lt_of_le (by first | omega | (simp; omega) | (simp; done)) hg1.size; have hz2 := hw1.size)) | ((refine step_push4 (by rfl) (.tmp 22) (.tmp 24) 40 100 (by rfl) i2 _ Tryd.underlying40 hi2 hi2z hi2s hi2b rfl w.heap.size u5 k (flat (L.take k)) p _ (by rfl) (by rfl) (by first | exact n2 | exact n2.alloc _) (by first | exact heap_new' (by first | rfl | (simp; done)) | exact heap_under (heap_new' (by first | rfl | (simp; done))) | exact hbk _ _ (heap_new' (by first | rfl | (simp; done))) (by first | omega | (simp; omega) | (simp; done)) | exact hbk _ _ (heap_under (heap_new' (by first | rfl | (simp; done)))) (by first | omega | (simp; omega) | (simp; done))) (by first | omega | (simp; omega) | (simp; done)) (by omega) ?_; intro v2 w2 m2 hg2; have m1 : w2.ownsRow w.heap.size 99 4 v1 (k + 1) _ := own_far (by first | exact n1 | exact n1.alloc _) (by first | exact n2 | exact n2.alloc _) (by decide) hg2; have hw2 : Below w.heap.size w w2 := Below.grown (by first | exact hw1 | exact hw1.alloc hz2 _) hg2 (by first | omega | (simp; omega) | (simp; done)) (fun g hg => (n2.lt g hg).1); have hsw2 : S4b w2 wr.heap.size p := s4b_grown (by first | exact hsw | exact s4b_alloc hsw hsz2) (by first | exact hsz2 | (simp; omega)) hg2 hlt2)))
          all_goals go_wp2
          all_goals
            go_roundw
            case rel => exact ⟨k + 1, by go_num, by omega, by rw [flat_take hp]; exact m1, by rw [flat_take hp]; exact m2, hw2⟩
            case measure => simp [intOf]; omega

        · have hkM : k = 80 := by omega
          subst hkM
          go_wp2
          go_ret2
          exact ⟨_, _, rfl, own1, own2, hbel⟩
end Go.Proofs.YtlnanenfpapfkaaDoor

/- The walk of the laws' packets, from its end. -/
set_option linter.unusedVariables false
namespace Go.Proofs.YtlnanenfpapfkaaDoor
open Go.RowKit Pl

/-- The slices of an argument that a machine holds. -/
structure PkCap (m : Hs) : Prop where
  c : m.c.cap ≤ maxLen
  cA : (m.c.A = none ∧ m.c.cap = 0) ∨ ∃ a, m.c.A = some a
  p : m.p.cap ≤ maxLen
  pA : (m.p.A = none ∧ m.p.cap = 0) ∨ ∃ a, m.p.A = some a
  w : m.w.cap ≤ maxLen
  wA : (m.w.A = none ∧ m.w.cap = 0) ∨ ∃ a, m.w.A = some a
  s : m.s.cap ≤ maxLen
  f : m.f.cap ≤ maxLen
theorem ppk_size : (Tryd.prog.info? 38).map (·.size) = some 26 := by kernel_rfl
theorem rpk_size' : (Tryd.prog.info? 45).map (·.size) = some 26 := by kernel_rfl
theorem Blk.row {w : World} {g : Nat} {cs : Array Value} {t : TypeId} (h : Blk w g cs t) (cs' : Array Value) : Blk (w.setRow g cs') g cs' t := setRow_heap w g cs cs' t (0, 0) h
theorem Blk.row_ {w : World} {g g' : Nat} {cs : Array Value} {t : TypeId} (h : Blk w g cs t) (hg : g ≠ g') (cs' : Array Value) : Blk (w.setRow g' cs') g cs t := (setRow_other w g' g cs' hg).trans h
/-- Lists cut at 80. -/
def cutP (p : Pk) : Pk := { p with ps := p.ps.take 80, wps := p.wps.take 80, codes := p.codes.take 80, subs := p.subs.take 80, filters := p.filters.take 80 }
theorem cutP_fits {p : Pk} (h : p.fits) : (cutP p).fits := by
  have t : ∀ {α : Type} {L : List α} {Q : α → Prop}, (L.length ≤ 1048576 ∧ ∀ x ∈ L, Q x) → ((L.take 80).length ≤ 1048576 ∧ ∀ x ∈ L.take 80, Q x) := fun h => ⟨by rw [List.length_take]; omega, fun x hx => h.2 x (List.mem_of_mem_take hx)⟩
  exact { h with ps := t h.ps, wps := t h.wps, codes := t h.codes, subs := t h.subs, filters := t h.filters }
/-- What the walk has in hand. -/
structure Ld (w : World) (p : Pk) (m : Hs) (ga gb : Nat) (X : World) (q : Pk) (m1 m2 : Hs) : Prop where
  two : Two w.heap.size X ga gb q m1 m2
  x : Blk X w.heap.size (pkA .u8 p m) 29
  r1 : Blk X (w.heap.size + 1) #[.int .i64 0, .bool false, .bool false, .int .i64 0, .int .i64 0, .string ⟨#[]⟩, .string ⟨#[]⟩, .int .u8 0, .slice none 0 0, .slice none 0 0, .string ⟨#[]⟩, .bool false, .int .i64 0, .bool false, .string ⟨#[]⟩, .string ⟨#[]⟩, .int .i64 0, .bool false, .slice none 0 0, .bool false, .bool false, .string ⟨#[]⟩, .string ⟨#[]⟩, .bool false, .slice none 0 0, .slice none 0 0] 38
  r2 : Blk X (w.heap.size + 1 + 1) #[.int .i64 0, .bool false, .bool false, .int .i64 0, .int .i64 0, .string ⟨#[]⟩, .string ⟨#[]⟩, .int .i64 0, .slice none 0 0, .slice none 0 0, .string ⟨#[]⟩, .bool false, .int .i64 0, .bool false, .string ⟨#[]⟩, .string ⟨#[]⟩, .int .i64 0, .bool false, .slice none 0 0, .bool false, .bool false, .string ⟨#[]⟩, .string ⟨#[]⟩, .bool false, .slice none 0 0, .slice none 0 0] 45
  below : Below w.heap.size w X
  g1 : w.heap.size + 1 + 1 < ga
  g2 : ga < gb
theorem Two.below {B : Nat} {w w' : World} {ga gb : Nat} {q : Pk} {m1 m2 : Hs} (h : Two B w ga gb q m1 m2) (hb : Below w.heap.size w w') : Two B w' ga gb q m1 m2 := by
  have k : ∀ {e : TypeId} {s n : Nat} {v : Value} {x : List Value}, w.ownsRow B e s v n x → w'.ownsRow B e s v n x := fun o => own_mod o (Mod.of_below (S := fun _ => False) hb) (fun _ _ h => h)
  exact ⟨h.a.of_below hb, h.b.of_below hb, k h.p1, k h.p2, k h.w1, k h.w2, k h.c1, k h.c2, k h.s1, k h.s2, k h.f1, k h.f2, h.ff⟩
/-- What packets answers. -/
def PkPost (w : World) (p : Pk) (e : Ending) (w' : World) : Prop := ∃ m1 m2, e = .returned (.tuple #[pkV .u8 (cutP p) m1, pkV .i64 (cutP p) m2]) ∧ PkIn .u8 w' (cutP p) m1 ∧ PkIn .i64 w' (cutP p) m2 ∧ Below w.heap.size w w'
/-- The code behind its first n parts. -/
def ctl : Nat → Code → Code
  | 0, c => c
  | n + 1, .seq _ d => ctl n d
  | _ + 1, c => c
noncomputable abbrev pkc (n : Nat) : Code := ctl n ((Tryd.f8).body.getD .skip)
theorem results_two_rows {P : Program} {fn : Func} {t1 t2 : Nat} {ty1 ty2 : TypeId} (h : fn.results = #[.cell t1 ty1, .cell t2 ty2]) (tmps : Array Value) (w : World) (g1 g2 : Nat) (s1 s2 : TypeId) (c1 c2 : Array Value) (d1 d2 : TypeDesc)
    (h1 : tmps.getD t1 undef = .pointer (some ⟨g1, 0, none⟩)) (h2 : tmps.getD t2 undef = .pointer (some ⟨g2, 0, none⟩)) (k1 : w.heap[g1]? = some (.cells c1 s1 (0, 0))) (k2 : w.heap[g2]? = some (.cells c2 s2 (0, 0)))
    (u1 : P.underlying ty1 = some d1) (q1 : (match d1 with | .struct _ | .array _ _ => true | _ => false) = true) (i1 : (P.info? ty1).map (·.size) = some c1.size)
    (u2 : P.underlying ty2 = some d2) (q2 : (match d2 with | .struct _ | .array _ _ => true | _ => false) = true) (i2 : (P.info? ty2).map (·.size) = some c2.size) :
    (results fn tmps).run P w = .ok (.tuple #[.agg c1, .agg c2]) w := by
  have hp1 : tmps[t1]?.getD undef = .pointer (some ⟨g1, 0, none⟩) := by simpa using h1
  have hp2 : tmps[t2]?.getD undef = .pointer (some ⟨g2, 0, none⟩) := by simpa using h2
  simp [results, h, hp1, hp2, asAddr, run_loadVar_row w g1 s1 ty1 c1 (0, 0) d1 k1 u1 q1 i1, run_loadVar_row w g2 s2 ty2 c2 (0, 0) d2 k2 u2 q2 i2]
theorem one_store {P : Program} {w : World} {ty : TypeId} {g : Nat} {t : TypeId} {old cells : Array Value} (hg : w.heap[g]? = some (.cells old t (0, 0))) (hi : (P.info? ty).map (·.size) = some cells.size) (ho : old.size = cells.size) (h1 : cells.all (·.oneCell') = true) :
    (Instr.storeAt ty (.pointer (some ⟨g, 0, none⟩)) (.agg cells)).run P w = .ok () (w.setRow g cells) := by
  simp [Instr.storeAt, Instr.sureAddr, run_storeVar_row w g t ty old cells hg hi ho h1]
theorem wpOp_store {P : Program} {ops : Array Oper} {Q : Exit → Act → World → Prop} {i : Nat} {o : Oper} {a : Act} {w : World} {K : Act → World → Prop} {ty : TypeId} {x y : Operand} (ho : ops[i]? = some o) (hgd : o.guard = none) (hd : o.dst = none) (hop : o.op = .store ty x y)
    {g : Nat} {cells : Array Value} (hx : a.eval x = .pointer (some ⟨g, 0, none⟩)) (hy : a.eval y = .agg cells) {t : TypeId} {old : Array Value} (hg : w.heap[g]? = some (.cells old t (0, 0))) (hi : (P.info? ty).map (·.size) = some cells.size) (hold : old.size = cells.size) (h1 : cells.all (·.oneCell') = true)
    (h : K a (w.setRow g cells)) : wpOp P ops Q i K a w :=
  wpOp_of_wp ho hgd (wp_store_row ty x y hop g cells hx hy t old hg hi hold h1 (by rw [hd]; exact h))
theorem pkA_oneP (k : IntKind) (q : Pk) (m : Hs) : (pkA k q m).all (·.oneCell') = true := by simp [pkA, Value.oneCell']
theorem Mod.row {S : Nat → Prop} {a b : World} (h : Mod S a b) {g : Nat} (hg : S g) (cs : Array Value) (hlt : g < b.heap.size) : Mod S a (b.setRow g cs) := by
  refine h.trans ⟨rfl, rfl, rfl, ?_, fun i hi hn => setRow_other b g i cs (fun e => hn (e ▸ hg))⟩
  simp [World.setRow]
set_option maxRecDepth 100000 in
set_option maxHeartbeats 4000000 in
theorem pk_10 {x0 x6 x7 x8 x9 x10 x11 x12 x13 x14 x15 x16 x17 x18 x19 x20 x21 x22 x23 x24 x25 x26 x27 x28 x29 x30 x31 x32 x33 x34 x35 x36 x37 x38 x39 x40 x41 x42 x43 x44 x45 x46 x47 x48 x49 x50 x51 x52 x53 x54 x55 x56 x57 x58 x59 x60 x61 x62 x63 x64 x65 x66 x67 x68 x69 x70 x71 x72 x73 x74 x75 x76 x77 x78 x79 x80 x81 x82 x83 x84 x85 x86 x87 x88 x89 x90 x91 x92 x93 x94 x95 x96 x97 x98 x99 x100 x101 x102 x103 x104 x105 x106 x107 x108 x109 x110 x111 x112 x113 x114 x115 x116 x117 x118 x119 x120 x121 x122 x123 x124 x125 x126 x127 x128 x129 x130 x131 x132 x133 x134 x135 x136 x137 x138 x139 x140 x141 x142 x143 x144 x145 x146 x147 x148 x149 x150 x151 x152 x153 x154 x155 x156 x157 x158 x159 x160 x161 x162 x163 x164 x165 x166 x167 x168 x169 x170 x171 x172 x173 x174 x175 x176 x177 x178 x179 x180 x181 x182 x183 x184 x185 x186 x187 x188 x189 x190 x191 x192 x193 x194 x195 x196 x197 x198 x199 x200 x201 x202 x203 x204 x205 x206 x207 : Value} {w : World} {p : Pk} {m m1 m2 : Hs} {ga gb : Nat} {X : World} (hf : p.fits) (h : Ld w p m ga gb X (cutP p) m1 m2) :
    (pkc 10).wp Tryd.prog (bodyPost Tryd.prog Tryd.f8 (PkPost w p)) { tmps := #[x0, .pointer (some ⟨w.heap.size, 0, none⟩), .pointer (some ⟨w.heap.size + 1, 0, none⟩), .pointer (some ⟨w.heap.size + 1 + 1, 0, none⟩), .pointer (some ⟨ga, 0, none⟩), .pointer (some ⟨gb, 0, none⟩), x6, x7, x8, x9, x10, x11, x12, x13, x14, x15, x16, x17, x18, x19, x20, x21, x22, x23, x24, x25, x26, x27, x28, x29, x30, x31, x32, x33, x34, x35, x36, x37, x38, x39, x40, x41, x42, x43, x44, x45, x46, x47, x48, x49, x50, x51, x52, x53, x54, x55, x56, x57, x58, x59, x60, x61, x62, x63, x64, x65, x66, x67, x68, x69, x70, x71, x72, x73, x74, x75, x76, x77, x78, x79, x80, x81, x82, x83, x84, x85, x86, x87, x88, x89, x90, x91, x92, x93, x94, x95, x96, x97, x98, x99, x100, x101, x102, x103, x104, x105, x106, x107, x108, x109, x110, x111, x112, x113, x114, x115, x116, x117, x118, x119, x120, x121, x122, x123, x124, x125, x126, x127, x128, x129, x130, x131, x132, x133, x134, x135, x136, x137, x138, x139, x140, x141, x142, x143, x144, x145, x146, x147, x148, x149, x150, x151, x152, x153, x154, x155, x156, x157, x158, x159, x160, x161, x162, x163, x164, x165, x166, x167, x168, x169, x170, x171, x172, x173, x174, x175, x176, x177, x178, x179, x180, x181, x182, x183, x184, x185, x186, x187, x188, x189, x190, x191, x192, x193, x194, x195, x196, x197, x198, x199, x200, x201, x202, x203, x204, x205, x206, x207], defers := [] } X := by
  conv => arg 2; whnf
  have pZ : ∀ w', (Mod (fun g => g = w.heap.size + 1 ∨ g = w.heap.size + 1 + 1) X.drew w') → Blk w' ga (pkA .u8 (cutP p) m1) 38 ∧ Blk w' gb (pkA .i64 (cutP p) m2) 45 := fun w' hm =>
    ⟨h.two.a.drew.mod hm (fun e => by have := h.g1; omega), h.two.b.drew.mod hm (fun e => by have := h.g1; have := h.g2; omega)⟩
  have hlt := h.r2.lt
  refine wp_seq_k ?_
  intro K hK
  refine wp_region_held (S := fun w' => Blk w' ga (pkA .u8 (cutP p) m1) 38 ∧ Blk w' gb (pkA .i64 (cutP p) m2) 45) (by kernel_rfl) ?_
  change wpAnyH _ _ _ _ _ _ _ _ X.drew
  refine wpAnyH_take (i := 0) (v := .agg (pkA .u8 (cutP p) m1)) rfl (by kernel_rfl) (by kernel_rfl) (by kernel_rfl) ?_ (y_load _ rfl rfl rfl (fun w' hw => run_loadAt_row w' ga _ _ _ _ _ hw.1 Tryd.underlying38 rfl ppk_size)) (pZ _ (Mod.refl _ _)) ?_
  · exact fun _ _ _ h => h
  refine wpAnyH_take (i := 1) (v := .agg (pkA .i64 (cutP p) m2)) rfl (by kernel_rfl) (by kernel_rfl) (by kernel_rfl) ?_ (y_load _ rfl rfl rfl (fun w' hw => run_loadAt_row w' gb _ _ _ _ _ hw.2 Tryd.underlying45 rfl rpk_size')) (pZ _ (Mod.refl _ _)) ?_
  · exact fun _ _ _ h => h
  generalize hA0 : Act.put (Act.put _ _ _) _ _ = a0
  have e1 : a0.eval (.tmp 2) = .pointer (some ⟨w.heap.size + 1, 0, none⟩) := by rw [← hA0]; rfl
  have e2 : a0.eval (.tmp 3) = .pointer (some ⟨w.heap.size + 1 + 1, 0, none⟩) := by rw [← hA0]; rfl
  have e3 : a0.eval (.tmp 206) = .agg (pkA .u8 (cutP p) m1) := by rw [← hA0]; rfl
  have e4 : a0.eval (.tmp 207) = .agg (pkA .i64 (cutP p) m2) := by rw [← hA0]; rfl
  change wpAnyH _ _ _ _ _ 2 (chL 4 [0, 1] [2] [3] 0 0) _ _
  refine two_chains (pre := [0, 1]) (A := [2]) (B := [3]) (by kernel_rfl) (fun i j a w' => a = a0 ∧ Mod (fun g => g = w.heap.size + 1 ∨ g = w.heap.size + 1 + 1) X.drew w' ∧ Blk w' (w.heap.size + 1) (if i = 0 then #[.int .i64 0, .bool false, .bool false, .int .i64 0, .int .i64 0, .string ⟨#[]⟩, .string ⟨#[]⟩, .int .u8 0, .slice none 0 0, .slice none 0 0, .string ⟨#[]⟩, .bool false, .int .i64 0, .bool false, .string ⟨#[]⟩, .string ⟨#[]⟩, .int .i64 0, .bool false, .slice none 0 0, .bool false, .bool false, .string ⟨#[]⟩, .string ⟨#[]⟩, .bool false, .slice none 0 0, .slice none 0 0] else pkA .u8 (cutP p) m1) 38 ∧ Blk w' (w.heap.size + 1 + 1) (if j = 0 then #[.int .i64 0, .bool false, .bool false, .int .i64 0, .int .i64 0, .string ⟨#[]⟩, .string ⟨#[]⟩, .int .i64 0, .slice none 0 0, .slice none 0 0, .string ⟨#[]⟩, .bool false, .int .i64 0, .bool false, .string ⟨#[]⟩, .string ⟨#[]⟩, .int .i64 0, .bool false, .slice none 0 0, .bool false, .bool false, .string ⟨#[]⟩, .string ⟨#[]⟩, .bool false, .slice none 0 0, .slice none 0 0] else pkA .i64 (cutP p) m2) 45) ?_ ?_ ?_ 2 0 0 _ _ (by decide) (by decide) rfl ⟨rfl, Mod.refl _ _, h.r1.drew, h.r2.drew⟩
  · rintro i j a w' hi ⟨rfl, hm, b1, b2⟩
    obtain rfl : i = 0 := by simpa using hi
    refine wpOp_store rfl rfl rfl rfl e1 e3 b1 ppk_size rfl (pkA_oneP _ _ _) ?_
    have hm' := hm.row (.inl rfl) (pkA .u8 (cutP p) m1) b1.lt
    exact ⟨pZ _ hm', rfl, hm', b1.row _, b2.row_ (by omega) _⟩
  · rintro i j a w' hi ⟨rfl, hm, b1, b2⟩
    obtain rfl : j = 0 := by simpa using hi
    refine wpOp_store rfl rfl rfl rfl e2 e4 b2 rpk_size' rfl (pkA_oneP _ _ _) ?_
    have hm' := hm.row (.inr rfl) (pkA .i64 (cutP p) m2) b2.lt
    exact ⟨pZ _ hm', rfl, hm', b1.row_ (by omega) _, b2.row _⟩
  · rintro a w' ⟨rfl, hm, b1, b2⟩
    refine hK _ _ ?_
    apply wp_ret
    have z1 : a.tmps.getD 2 undef = .pointer (some ⟨w.heap.size + 1, 0, none⟩) := e1
    have z2 : a.tmps.getD 3 undef = .pointer (some ⟨w.heap.size + 1 + 1, 0, none⟩) := e2
    refine bodyPost_ret (results_two_rows rfl _ _ _ _ _ _ _ _ _ _ z1 z2 b1 b2 Tryd.underlying38 rfl ppk_size Tryd.underlying45 rfl rpk_size') (by rw [← hA0]; rfl) ?_
    have mX : Mod (fun g => g = w.heap.size + 1 ∨ g = w.heap.size + 1 + 1) X w' := (Mod.drew (Mod.refl _ X)).trans hm
    have hbX : Below w.heap.size w w' := h.below.trans (mX.below h.below.size (fun k hk => by omega))
    have k : ∀ {e : TypeId} {s n : Nat} {v : Value} {x : List Value}, X.ownsRow w.heap.size e s v n x → 38 ≠ e → 45 ≠ e → w'.ownsRow w.heap.size e s v n x := fun o a1 a2 =>
      own_mod o mX (fun g hg hx => by rcases hx with e | e; exact own_ne o h.r1 a1 (e ▸ hg); exact own_ne o h.r2 a2 (e ▸ hg))
    have t : Two w.heap.size w' ga gb (cutP p) m1 m2 := ⟨(pZ _ hm).1, (pZ _ hm).2, k h.two.p1 (by decide) (by decide), k h.two.p2 (by decide) (by decide), k h.two.w1 (by decide) (by decide), k h.two.w2 (by decide) (by decide), k h.two.c1 (by decide) (by decide), k h.two.c2 (by decide) (by decide), k h.two.s1 (by decide) (by decide), k h.two.s2 (by decide) (by decide), k h.two.f1 (by decide) (by decide), k h.two.f2 (by decide) (by decide), h.two.ff⟩
    exact ⟨m1, m2, rfl, t.in1 (cutP_fits hf), t.in2 (cutP_fits hf), hbX⟩
end Go.Proofs.YtlnanenfpapfkaaDoor
