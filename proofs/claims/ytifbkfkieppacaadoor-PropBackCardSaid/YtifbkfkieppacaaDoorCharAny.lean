/- The contract of the document's Char: nx. -/
import Derived.Test.YtifbkfkieppacaaDoorChar
namespace Go.Proofs.YtifbkfkieppacaaDoor
open Go.RowKit Pl Go.Shelf
open Go.PlainAid (bt bt_nonneg bt_le get_bt bt_end)

theorem nx_rest {s : ByteArray} {a : Nat} (h : ¬ (1 ≤ bt s a ∧ bt s a ≤ 127)) : nx s a =
    if 194 ≤ bt s a ∧ bt s a ≤ 223 ∧ tl s (a + 1) 128 191 = true then 2
    else if 224 ≤ bt s a ∧ bt s a ≤ 239 ∧ tl s (a + 1) 128 191 = true ∧ tl s (a + 2) 128 191 = true then
      (if (bt s a = 224 ∧ tl s (a + 1) 160 191 = false) ∨ (bt s a = 237 ∧ tl s (a + 1) 128 159 = false) then 0 else 3)
    else if 240 ≤ bt s a ∧ bt s a ≤ 244 ∧ tl s (a + 1) 128 191 = true ∧ tl s (a + 2) 128 191 = true ∧ tl s (a + 3) 128 191 = true then
      (if (bt s a = 240 ∧ tl s (a + 1) 144 191 = false) ∨ (bt s a = 244 ∧ tl s (a + 1) 128 143 = false) then 0 else 4)
    else 0 := by unfold nx; rw [if_neg h]

theorem char_any (s : ByteArray) (a : Nat) (ha : a < s.size) (w : World) (hs : s.size ≤ 281474976710656) :
    Calls Tryd.prog 59 #[.string s, .int .i64 a] w fun e w' => e = .returned (.int .i64 (nx s a)) ∧ w = w' := by
  have hb0 := bt_nonneg s a
  have hb1 := bt_le s a
  have key : ∀ n : Nat, nx s a = n → (Calls Tryd.prog 59 #[.string s, .int .i64 a] w fun e w' => e = .returned (.int .i64 (n : Int)) ∧ w = w') → Calls Tryd.prog 59 #[.string s, .int .i64 a] w fun e w' => e = .returned (.int .i64 (nx s a)) ∧ w = w' := by
    intro n h hc
    rw [h]
    exact hc
  by_cases c1 : 1 ≤ bt s a ∧ bt s a ≤ 127
  · exact key 1 (by unfold nx; rw [if_pos c1]) (char_1 s a ha w hs c1.1 c1.2)
  · have u1 := nx_rest c1
    by_cases c0 : bt s a = 0
    · exact key 0 (by rw [u1, if_neg (by omega), if_neg (by omega), if_neg (by omega)]) (char_0a s a ha w hs c0)
    · by_cases cb : bt s a ≤ 193
      · exact key 0 (by rw [u1, if_neg (by omega), if_neg (by omega), if_neg (by omega)]) (char_0b s a ha w hs (by omega) cb)
      · by_cases cc : 245 ≤ bt s a
        · exact key 0 (by rw [u1, if_neg (by omega), if_neg (by omega), if_neg (by omega)]) (char_0c s a ha w hs cc)
        · by_cases c2 : bt s a ≤ 223
          · cases t1 : tl s (a + 1) 128 191
            · exact key 0 (by rw [u1, if_neg (by rw [t1]; simp), if_neg (by omega), if_neg (by omega)]) (char_2n s a ha w hs (by omega) c2 t1)
            · exact key 2 (by rw [u1, if_pos ⟨by omega, c2, t1⟩]) (char_2 s a ha w hs (by omega) c2 t1)
          · have u2 := u1
            rw [if_neg (show ¬ (194 ≤ bt s a ∧ bt s a ≤ 223 ∧ tl s (a + 1) 128 191 = true) by omega)] at u2
            by_cases c3 : bt s a ≤ 239
            · rw [if_neg (show ¬ (240 ≤ bt s a ∧ bt s a ≤ 244 ∧ tl s (a + 1) 128 191 = true ∧ tl s (a + 2) 128 191 = true ∧ tl s (a + 3) 128 191 = true) by omega)] at u2
              cases t1 : tl s (a + 1) 128 191
              · exact key 0 (by rw [u2, if_neg (by rw [t1]; simp)]) (char_3n1 s a ha w hs (by omega) c3 t1)
              · cases t2 : tl s (a + 2) 128 191
                · exact key 0 (by rw [u2, if_neg (by rw [t2]; simp)]) (char_3n2 s a ha w hs (by omega) c3 t1 t2)
                · rw [if_pos ⟨by omega, c3, t1, t2⟩] at u2
                  by_cases e1 : bt s a = 224
                  · cases t4 : tl s (a + 1) 160 191
                    · exact key 0 (by rw [u2, if_pos (.inl ⟨e1, t4⟩)]) (char_3_224_false s a ha w hs (by omega) c3 t1 t2 e1 t4)
                    · exact key 3 (by rw [u2, if_neg (by rw [t4]; rintro (⟨_, h⟩ | ⟨h, _⟩); exact absurd h (by simp); omega)]) (char_3_224_true s a ha w hs (by omega) c3 t1 t2 e1 t4)
                  · by_cases e2 : bt s a = 237
                    · cases t4 : tl s (a + 1) 128 159
                      · exact key 0 (by rw [u2, if_pos (.inr ⟨e2, t4⟩)]) (char_3_237_false s a ha w hs (by omega) c3 t1 t2 e2 t4)
                      · exact key 3 (by rw [u2, if_neg (by rw [t4]; rintro (⟨h, _⟩ | ⟨_, h⟩); omega; exact absurd h (by simp))]) (char_3_237_true s a ha w hs (by omega) c3 t1 t2 e2 t4)
                    · exact key 3 (by rw [u2, if_neg (by rintro (⟨h, _⟩ | ⟨h, _⟩); exact e1 h; exact e2 h)]) (char_3 s a ha w hs (by omega) c3 t1 t2 (beq_eq_false_iff_ne.2 e1) (beq_eq_false_iff_ne.2 e2))
            · rw [if_neg (show ¬ (224 ≤ bt s a ∧ bt s a ≤ 239 ∧ tl s (a + 1) 128 191 = true ∧ tl s (a + 2) 128 191 = true) by omega)] at u2
              cases t1 : tl s (a + 1) 128 191
              · exact key 0 (by rw [u2, if_neg (by rw [t1]; simp)]) (char_4n1 s a ha w hs (by omega) (by omega) t1)
              · cases t2 : tl s (a + 2) 128 191
                · exact key 0 (by rw [u2, if_neg (by rw [t2]; simp)]) (char_4n2 s a ha w hs (by omega) (by omega) t1 t2)
                · cases t3 : tl s (a + 3) 128 191
                  · exact key 0 (by rw [u2, if_neg (by rw [t3]; simp)]) (char_4n3 s a ha w hs (by omega) (by omega) t1 t2 t3)
                  · rw [if_pos ⟨by omega, by omega, t1, t2, t3⟩] at u2
                    by_cases e1 : bt s a = 240
                    · cases t4 : tl s (a + 1) 144 191
                      · exact key 0 (by rw [u2, if_pos (.inl ⟨e1, t4⟩)]) (char_4_240_false s a ha w hs (by omega) (by omega) t1 t2 t3 e1 t4)
                      · exact key 4 (by rw [u2, if_neg (by rw [t4]; rintro (⟨_, h⟩ | ⟨h, _⟩); exact absurd h (by simp); omega)]) (char_4_240_true s a ha w hs (by omega) (by omega) t1 t2 t3 e1 t4)
                    · by_cases e2 : bt s a = 244
                      · cases t4 : tl s (a + 1) 128 143
                        · exact key 0 (by rw [u2, if_pos (.inr ⟨e2, t4⟩)]) (char_4_244_false s a ha w hs (by omega) (by omega) t1 t2 t3 e2 t4)
                        · exact key 4 (by rw [u2, if_neg (by rw [t4]; rintro (⟨h, _⟩ | ⟨_, h⟩); omega; exact absurd h (by simp))]) (char_4_244_true s a ha w hs (by omega) (by omega) t1 t2 t3 e2 t4)
                      · exact key 4 (by rw [u2, if_neg (by rintro (⟨h, _⟩ | ⟨h, _⟩); exact e1 h; exact e2 h)]) (char_4 s a ha w hs (by omega) (by omega) t1 t2 t3 (beq_eq_false_iff_ne.2 e1) (beq_eq_false_iff_ne.2 e2))
end Go.Proofs.YtifbkfkieppacaaDoor
