/- Plain laws of rules for RemapBack; no program in sight. -/
import Derived.Test.YtdjiioidkgppjaaDoorRemapPlain
namespace Go.Proofs.YtdjiioidkgppjaaDoor.Pl
open Go

theorem flp_flp (r : Rl) : flp (flp r) = r := by
  obtain ⟨p, d, q, l, m⟩ := r
  unfold flp
  simp only [Rl.mk.injEq, true_and, and_true]
  by_cases h0 : d = 0
  · subst h0; rfl
  · by_cases h1 : d = 1
    · subst h1; rfl
    · simp only [h0, h1, if_false]
theorem inC_flip (d q : Int) : inC (if d = 0 then 1 else if d = 1 then 0 else d) q = inC d q := by
  by_cases h0 : d = 0
  · subst h0; rfl
  · by_cases h1 : d = 1
    · subst h1; rfl
    · rw [if_neg h0, if_neg h1]
theorem ck_flp (r : Rl) : ckR (flp r) = ckR r := by
  show (if filtB r.pat then (if pre r.rem && pre r.loc then inC (if r.dir = 0 then 1 else if r.dir = 1 then 0 else r.dir) r.qos else 144) else 143) = _
  rw [inC_flip, Bool.and_comm]
  rfl
theorem trn_flp (r : Rl) (n f t : ByteArray) : trn (flp r) n f t = trn r n f t := by
  unfold trn
  rw [ck_flp]
  rfl
theorem flp_dir1 (r : Rl) : (flp r).dir = 1 ↔ r.dir = 0 := by
  show (if r.dir = 0 then (1 : Int) else if r.dir = 1 then 0 else r.dir) = 1 ↔ _
  split
  · rename_i h; simp [h]
  · split
    · rename_i h h'; simp [h']
    · rename_i h h'; exact ⟨fun e => absurd e h', fun e => absurd e h⟩
theorem flp_dir0 (r : Rl) : (flp r).dir = 0 ↔ r.dir = 1 := by
  show (if r.dir = 0 then (1 : Int) else if r.dir = 1 then 0 else r.dir) = 0 ↔ _
  split
  · rename_i h; simp [h]
  · split
    · rename_i h h'; simp [h']
    · rename_i h h'; exact ⟨fun e => absurd e h, fun e => absurd e h'⟩
theorem toRem_flp (r : Rl) (n : ByteArray) : toRem (flp r) n = toLoc r n := by
  unfold toRem toLoc
  by_cases h : r.dir = 0
  · rw [if_pos h, if_pos ((flp_dir1 r).2 h)]
  · rw [if_neg h, if_neg fun e => h ((flp_dir1 r).1 e), trn_flp]; rfl
theorem toLoc_flp (r : Rl) (n : ByteArray) : toLoc (flp r) n = toRem r n := by
  unfold toRem toLoc
  by_cases h : r.dir = 1
  · rw [if_pos h, if_pos ((flp_dir0 r).2 h)]
  · rw [if_neg h, if_neg fun e => h ((flp_dir0 r).1 e), trn_flp]; rfl
theorem trn_open {r : Rl} {n f t x : ByteArray} (h : trn r n f t = (x, true)) : hp n f = true ∧ ckR r = 0 ∧ mtB r.pat (rst n f) = true ∧ nameB n = true ∧ nameB (t ++ rst n f) = true ∧ x = t ++ rst n f := by
  unfold trn at h
  split at h
  · rename_i hc
    simp only [Bool.and_eq_true, decide_eq_true_eq] at hc
    simp only [Prod.mk.injEq, and_true] at h
    exact ⟨hc.1, hc.2.1, hc.2.2.1, hc.2.2.2.1, hc.2.2.2.2, h.symm⟩
  · simp at h
theorem rst_app (t x : ByteArray) : rst (t ++ x) t = x ∧ hp (t ++ x) t = true := by
  constructor
  · unfold rst
    apply ByteArray.ext
    apply Array.toList_inj.1
    rw [Lib.extract_to_end, ByteArray.data_append, Array.toList_append]
    have : t.data.toList.length = t.size := rfl
    rw [← this, List.drop_left]
  · unfold hp Lib.hasPrefix
    rw [ByteArray.data_append, Array.toList_append, List.isPrefixOf_iff_prefix]
    exact List.prefix_append _ _
theorem app_rst {n f : ByteArray} (h : hp n f = true) : f ++ rst n f = n := by
  unfold hp Lib.hasPrefix at h
  obtain ⟨u, hu⟩ := List.isPrefixOf_iff_prefix.1 h
  apply ByteArray.ext
  apply Array.toList_inj.1
  unfold rst
  rw [ByteArray.data_append, Array.toList_append, Lib.extract_to_end, ← hu]
  have : f.data.toList.length = f.size := rfl
  rw [← this, List.drop_left]
theorem name_of_rem {r : Rl} {n x : ByteArray} (h : toRem r n = (x, true)) : nameB x = true := by
  unfold toRem at h
  split at h
  · simp at h
  · obtain ⟨_, _, _, _, h5, rfl⟩ := trn_open h
    exact h5
/-- One that goes both ways makes it back. -/
theorem back {r : Rl} {n x : ByteArray} (h : toRem r n = (x, true)) : (r.dir = 2 ∧ toLoc r x = (n, true)) ∨ (r.dir ≠ 2 ∧ toLoc r x = (⟨#[]⟩, false)) := by
  unfold toRem at h
  split at h
  · simp at h
  · rename_i hd
    obtain ⟨h1, h2, h3, h4, h5, rfl⟩ := trn_open h
    have hck := ck_dir h2
    by_cases h0 : r.dir = 0
    · exact .inr ⟨by omega, by unfold toLoc; rw [if_pos h0]⟩
    · refine .inl ⟨by omega, ?_⟩
      unfold toLoc trn
      obtain ⟨e1, e2⟩ := rst_app r.rem (rst n r.loc)
      rw [if_neg h0, e1, e2, h2, h3, h5, app_rst h1, h4]
      rfl
end Go.Proofs.YtdjiioidkgppjaaDoor.Pl
