/- Plain laws for TopicOwn; no program in sight. -/
import Derived.Test.YtjkpmccnieodjaaDoorMatchPlain
namespace Go.Proofs.YtjkpmccnieodjaaDoor.Pl
open Go

theorem jn_le {L : List Bs} {B : Nat} (h : ∀ x ∈ L, x.length ≤ B) : (jn L).length ≤ L.length * (B + 1) := by
  induction L with
  | nil => simp [jn]
  | cons x r ih =>
    have hx := h x (by simp)
    cases r with
    | nil => simp only [jn, List.length_singleton, Nat.one_mul]; omega
    | cons y t =>
      have := ih fun z hz => h z (by simp [hz])
      rw [jn_cons x (by simp), List.length_append, List.length_cons, List.length_cons, Nat.succ_mul]
      omega
theorem set_le {N : ByteArray} (h : nameB N = true) (k : Nat) : (jn ((lev N.data.toList).set k [43])).length ≤ 65536 := by
  have hs := szd_size (name_szd h)
  have hl : N.data.toList.length = N.size := rfl
  have := jn_le (L := (lev N.data.toList).set k [43]) (B := 256) fun x hx => by
    rcases List.mem_or_eq_of_mem_set hx with hx | rfl
    · have := lev_size _ x hx; omega
    · simp
  rw [List.length_set] at this
  have h2 : (lev N.data.toList).length * 257 ≤ 32 * 257 := Nat.mul_le_mul_right _ hs.2.2
  omega
theorem take_le {N : ByteArray} (h : nameB N = true) (k : Nat) : (jn ((lev N.data.toList).take k ++ [[35]])).length ≤ 65536 := by
  have hs := szd_size (name_szd h)
  have hl : N.data.toList.length = N.size := rfl
  have := jn_le (L := (lev N.data.toList).take k ++ [[35]]) (B := 256) fun x hx => by
    rcases List.mem_append.1 hx with hx | hx
    · have := lev_size _ x (List.mem_of_mem_take hx); omega
    · rw [List.mem_singleton.1 hx]; simp
  have h3 : ((lev N.data.toList).take k ++ [[35]]).length ≤ 33 := by simp; omega
  have h2 : ((lev N.data.toList).take k ++ [[35]]).length * 257 ≤ 33 * 257 := Nat.mul_le_mul_right _ h3
  omega
/-- What the law says of the first of the two, in a form for the walk. -/
theorem open_say {N f : ByteArray} (h : nameB N = true) {k : Nat} (hk : k < (lev N.data.toList).length) (hf : f = ⟨(jn ((lev N.data.toList).set k [43])).toArray⟩) (hN : 0 < N.size) :
    mtB f N = (decide (f.size ≤ 256) && (decide (0 < k) || !((N[0].toNat : Int) == 36))) := by
  subst hf
  rw [open_match h hk]
  have e : (⟨(jn ((lev N.data.toList).set k [43])).toArray⟩ : ByteArray).size = (jn ((lev N.data.toList).set k [43])).length := by simp [ByteArray.size]
  rw [e, head_at N hN]
  congr 3
  rw [Bool.eq_iff_iff]
  simp only [beq_iff_eq, Option.some.injEq]
  constructor
  · intro h; rw [h]; rfl
  · intro h; exact UInt8.toNat_inj.1 (by show _ = 36; omega)
theorem rest_say {N f : ByteArray} (h : nameB N = true) {k : Nat} (hk : k < (lev N.data.toList).length) (hf : f = ⟨(jn ((lev N.data.toList).take k ++ [[35]])).toArray⟩) (hN : 0 < N.size) :
    mtB f N = (decide (f.size ≤ 256) && (decide (0 < k) || !((N[0].toNat : Int) == 36))) := by
  subst hf
  rw [rest_match h hk]
  have e : (⟨(jn ((lev N.data.toList).take k ++ [[35]])).toArray⟩ : ByteArray).size = (jn ((lev N.data.toList).take k ++ [[35]])).length := by simp [ByteArray.size]
  rw [e, head_at N hN]
  congr 3
  rw [Bool.eq_iff_iff]
  simp only [beq_iff_eq, Option.some.injEq]
  constructor
  · intro h; rw [h]; rfl
  · intro h; exact UInt8.toNat_inj.1 (by show _ = 36; omega)
end Go.Proofs.YtjkpmccnieodjaaDoor.Pl
