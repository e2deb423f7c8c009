/- The walk of overlap's Gap. -/
import Derived.Test.YtichhppfdjkgkaaDoorOverWit2
namespace Go.Proofs.YtichhppfdjkgkaaDoor
set_option linter.unusedVariables false
open Go.RowKit Pl Go.Shelf

/-- Whether there is a gap. -/
def gpB (F G : ByteArray) : Bool := filtB F && (filtB G && gapC (shp F) (shp G))
theorem gpB_of {F G : ByteArray} {s t : Sh} {ok : Bool} (hs : shp F = s) (ht : shp G = t) (hok : (filtB F && filtB G) = ok) : gpB F G = (ok && gapC s t) := by
  rw [← hok]; unfold gpB; rw [hs, ht, Bool.and_assoc]
theorem any_succ (k : Nat) (f : Nat → Bool) : (List.range (k + 1)).any f = ((List.range k).any f || f k) := by
  rw [List.range_succ, List.any_append]; simp
theorem sha_len {W : World} {A : Option Addr} {n c : Nat} {p : Bool} {s : Sh} (h : ShA W (.agg #[.slice A n c, .bool p]) s) : s.lv.length = n ∧ s.op = p := by
  obtain ⟨A1, c1, e, _⟩ := h
  injection e with e
  injection e with e
  injection e with e1 e2
  injection e2 with e2 e3
  injection e1 with _ e1 _
  injection e2 with e2
  exact ⟨e1.symm, e2.symm⟩
theorem sha_row {W : World} {A : Option Addr} {n c : Nat} {p : Bool} {s : Sh} (h : ShA W (.agg #[.slice A n c, .bool p]) s) : n ≤ c ∧ c ≤ maxLen ∧ (0 < n → ∃ b, A = some ⟨b, 0, none⟩ ∧ b < W.heap.size ∧ ∀ i x, s.lv[i]? = some x → W.cell? ⟨b, i, none⟩ = some (strV x)) := by
  have hl := (sha_len h).1
  obtain ⟨A1, c1, e, h1, h2, h3⟩ := h
  injection e with e
  injection e with e
  injection e with e1 e2
  injection e1 with e0 _ e1
  subst e0 e1
  rw [hl] at h1 h3
  exact ⟨h1, h2, h3⟩

abbrev S5 (w' : World) (P Q : Nat) (A : Option Addr) (n c : Nat) (p : Bool) (A' : Option Addr) (n' c' : Nat) (p' : Bool) (b k : Nat) (x : Bs) : Prop := S4 w' P Q A n c p A' n' c' p' ∧ w'.cell? ⟨b, k, none⟩ = some (.string ⟨x.toArray⟩)
theorem drewN_below (X : World) (m : Nat) : Below X.heap.size X (X.drewN m) := by
  induction m with
  | zero => exact Below.refl _ _
  | succ m ih => exact ih.drew
set_option maxRecDepth 100000 in
set_option maxHeartbeats 4000000 in
theorem gap_any (F G : ByteArray) (w : World) (hF : F.size ≤ 281474976710656) (hG : G.size ≤ 281474976710656) (hT : Tabs w) :
    Calls Tryd.prog 15 #[.string F, .string G] w fun e w' => e = .returned (.tuple #[.string (if gpB F G then gapS F G else ⟨#[]⟩), .bool (gpB F G)]) ∧ Below w.heap.size w w' := by
  have C2 := Lib.hid (two_any F G w hF hG hT)
  obtain ⟨r, hr⟩ : ∃ r, (Value.tuple #[.string (if gpB F G then gapS F G else ⟨#[]⟩), .bool (gpB F G)]) = r := ⟨_, rfl⟩
  rw [hr]
  have HR := Lib.hid hr
  have HT := Lib.hid hT
  clear hr hT
  go_enter Tryd.func15, Tryd.ntmps15
  go_wp2_with fail
  refine C2.out.mono ?_
  rintro e w1 ⟨u, v, rfl, hu, hv, b1⟩
  obtain ⟨A, n, c, p, rfl⟩ : ∃ A n c p, u = .agg #[.slice A n c, .bool p] := by
    obtain ⟨A, c, rfl, _⟩ := hu
    exact ⟨_, _, _, _, rfl⟩
  obtain ⟨A', n', c', p', rfl⟩ : ∃ A n c p, v = .agg #[.slice A n c, .bool p] := by
    obtain ⟨A, c, rfl, _⟩ := hv
    exact ⟨_, _, _, _, rfl⟩
  obtain ⟨ok, hok⟩ : ∃ ok, (filtB F && filtB G) = ok := ⟨_, rfl⟩
  rw [hok]
  have K0 := Lib.hid (kp_new (w := w) hu hv b1 37 37)
  obtain ⟨s, hs⟩ : ∃ s, shp F = s := ⟨_, rfl⟩
  obtain ⟨t, ht⟩ : ∃ t, shp G = t := ⟨_, rfl⟩
  have HGP := Lib.hid (gpB_of hs ht hok)
  rw [hs, ht] at K0
  have HS := Lib.hid hs
  have HTT := Lib.hid ht
  clear hok hs ht hu hv b1
  go_upto_region 2 with fail
  obtain ⟨W, hW⟩ : ∃ W, (w1.alloc (.cells #[.slice A n c, .bool p] 37)).alloc (.cells #[.slice A' n' c', .bool p'] 37) = W := ⟨_, rfl⟩
  rw [hW] at K0
  (try rw [hW])
  clear hW
  obtain ⟨P, hP⟩ : ∃ P, w1.heap.size = P := ⟨_, rfl⟩
  obtain ⟨Q, hQ⟩ : ∃ Q, P + 1 = Q := ⟨_, rfl⟩
  (try rw [hP])
  (try rw [hQ])
  rw [hP, hQ] at K0
  clear hP hQ
  obtain ⟨e1, e2, e3, e4⟩ := K0.out.2.2.2.2.2
  obtain ⟨hn, hp⟩ := sha_len K0.out.1
  obtain ⟨hn', hp'⟩ := sha_len K0.out.2.1
  have hnb : n ≤ 32 := by rw [← hn, ← HS.out]; exact shp_small F
  have hnb' : n' ≤ 32 := by rw [← hn', ← HTT.out]; exact shp_small G
  have HN := Lib.hid hn
  have HP := Lib.hid hp
  have HN' := Lib.hid hn'
  have HP' := Lib.hid hp'
  have CFR : ∀ X, Hid (Kp w X P Q A n c p A' n' c' p' s t) → Calls Tryd.prog 34 #[.agg #[.slice A n c, .bool p], .agg #[.slice A' n' c', .bool p']] X fun e w' => e = .returned (strV (frs s.lv t.lv)) ∧ Below X.heap.size X w' := fun X h => fresh_any _ _ s t X h.out.1 h.out.2.1 (by omega) (by omega)
  obtain ⟨m, hm⟩ : ∃ m, lst t.lv = m := ⟨_, rfl⟩
  have hmb : m ≤ 32 := by rw [← hm, ← HTT.out]; exact lst_small G
  have hmp : 1 ≤ m := by rw [← hm]; exact lst_pos _
  have CL : ∀ X, Hid (Kp w X P Q A n c p A' n' c' p' s t) → Calls Tryd.prog 27 #[.agg #[.slice A' n' c', .bool p']] X fun e w' => e = .returned (.int .i64 m) ∧ Below X.heap.size X w' := fun X h => by rw [← hm]; exact least_any _ t X h.out.2.1
  obtain ⟨a1, ha1⟩ : ∃ a1, tks s m = a1 := ⟨_, rfl⟩
  obtain ⟨g1, hg1⟩ : ∃ g1, wld s.lv = g1 := ⟨_, rfl⟩
  obtain ⟨d2, hd2⟩ : ∃ d2, dlr t.lv = d2 := ⟨_, rfl⟩
  have CT : ∀ X, Hid (Kp w X P Q A n c p A' n' c' p' s t) → Calls Tryd.prog 28 #[.agg #[.slice A n c, .bool p], .int .i64 m] X fun e w' => e = .returned (.bool a1) ∧ Below X.heap.size X w' := fun X h => by rw [← ha1]; exact takes_any _ s m X h.out.1
  have CW : ∀ X, Hid (Kp w X P Q A n c p A' n' c' p' s t) → Calls Tryd.prog 29 #[.agg #[.slice A n c, .bool p]] X fun e w' => e = .returned (.bool g1) ∧ Below X.heap.size X w' := fun X h => by rw [← hg1]; exact wild_any _ s X h.out.1
  have CD : ∀ X, Hid (Kp w X P Q A n c p A' n' c' p' s t) → Calls Tryd.prog 30 #[.agg #[.slice A' n' c', .bool p']] X fun e w' => e = .returned (.bool d2) ∧ Below X.heap.size X w' := fun X h => by rw [← hd2]; exact dollar_any _ t X h.out.2.1
  have HGB : Hid (gapB s t = ((!a1 || (g1 && d2)) || (List.range (min m n)).any (gapA s.lv t.lv))) := Lib.hid (by
    unfold gapB; rw [hm, ha1, hg1, hd2, hn])
  have HM := Lib.hid hm
  obtain ⟨fo, hfo⟩ : ∃ fo, frs s.lv t.lv = fo := ⟨_, rfl⟩
  rw [hfo] at CFR
  have HFO := Lib.hid hfo
  have CFR := Lib.hid CFR
  have CL := Lib.hid CL
  have CT := Lib.hid CT
  have CW := Lib.hid CW
  have CD := Lib.hid CD
  unfold strV at CFR
  clear hn hn' hp hp' hm ha1 hg1 hd2 hfo
  cases ok
  · have hr : r = .tuple #[.string ⟨#[]⟩, .bool false] := by rw [← HR.out, HGP.out]; rfl
    go_wp2
    go_ret2
    exact ⟨by rw [hr]; rfl, K0.out.2.2.1⟩
  · go_wp2_with fail
    refine (CFR.out _ K0).mono ?_
    rintro e x1 ⟨rfl, y1⟩
    have K1 := kp_hid K0 y1
    clear e1 e2 e3 e4
    obtain ⟨e1, e2, e3, e4⟩ := K1.out.2.2.2.2.2
    clear y1
    go_wp2_with fail
    refine (CL.out _ K1).mono ?_
    rintro e x2 ⟨rfl, y1⟩
    have K2 := kp_hid K1 y1
    clear e1 e2 e3 e4
    obtain ⟨e1, e2, e3, e4⟩ := K2.out.2.2.2.2.2
    clear y1 CFR CL K0 K1
    go_upto_region 6 with fail
    go_cut [11] (fun b X => b = .bool (!a1 || (g1 && d2)) ∧ Hid (Kp w X P Q A n c p A' n' c' p' s t))
    case first =>
      cases a1
      · go_wp2_with (first | (go_at_call 28; (with_reducible refine (CT.out _ (by with_reducible assumption)).mono ?_); rintro e xa ⟨rfl, y⟩; have ka : Hid (Kp w xa P Q A n c p A' n' c' p' s t) := kp_hid (by with_reducible assumption) y; clear y; obtain ⟨e1, e2, e3, e4⟩ := ka.out.2.2.2.2.2) | (go_at_call 29; (with_reducible refine (CW.out _ (by with_reducible assumption)).mono ?_); rintro e xb ⟨rfl, y⟩; have kb : Hid (Kp w xb P Q A n c p A' n' c' p' s t) := kp_hid (by with_reducible assumption) y; clear y; obtain ⟨e1, e2, e3, e4⟩ := kb.out.2.2.2.2.2) | (go_at_call 30; (with_reducible refine (CD.out _ (by with_reducible assumption)).mono ?_); rintro e xc ⟨rfl, y⟩; have kc : Hid (Kp w xc P Q A n c p A' n' c' p' s t) := kp_hid (by with_reducible assumption) y; clear y; obtain ⟨e1, e2, e3, e4⟩ := kc.out.2.2.2.2.2))
        go_meet
        exact ⟨rfl, by with_reducible assumption⟩
      · cases g1 <;> cases d2
        all_goals (go_wp2_with (first | (go_at_call 28; (with_reducible refine (CT.out _ (by with_reducible assumption)).mono ?_); rintro e xa ⟨rfl, y⟩; have ka : Hid (Kp w xa P Q A n c p A' n' c' p' s t) := kp_hid (by with_reducible assumption) y; clear y; obtain ⟨e1, e2, e3, e4⟩ := ka.out.2.2.2.2.2) | (go_at_call 29; (with_reducible refine (CW.out _ (by with_reducible assumption)).mono ?_); rintro e xb ⟨rfl, y⟩; have kb : Hid (Kp w xb P Q A n c p A' n' c' p' s t) := kp_hid (by with_reducible assumption) y; clear y; obtain ⟨e1, e2, e3, e4⟩ := kb.out.2.2.2.2.2) | (go_at_call 30; (with_reducible refine (CD.out _ (by with_reducible assumption)).mono ?_); rintro e xc ⟨rfl, y⟩; have kc : Hid (Kp w xc P Q A n c p A' n' c' p' s t) := kp_hid (by with_reducible assumption) y; clear y; obtain ⟨e1, e2, e3, e4⟩ := kc.out.2.2.2.2.2)))
        all_goals go_meet
        all_goals exact ⟨rfl, by with_reducible assumption⟩
    case rest =>
      obtain ⟨rfl, kd⟩ := hcut
      obtain ⟨B0, hB0⟩ : ∃ b, (!a1 || (g1 && d2)) = b := ⟨_, rfl⟩
      rw [hB0] at HGB ⊢
      clear e1 e2 e3 e4 K2 CT CW CD hB0
      obtain ⟨e1, e2, e3, e4⟩ := kd.out.2.2.2.2.2
      go_wp2
      obtain ⟨M, hM⟩ : ∃ M, min m n = M := ⟨_, rfl⟩
      have hMI : min (m : Int) (n : Int) = (M : Int) := by omega
      have hMn : M ≤ n := by omega
      have hMm : M ≤ m := by omega
      rw [hMI]
      rw [hM] at HGB
      clear hMI hM
      go_loopw [11, 44] (fun b i X => ∃ k : Nat, i = .int .i64 k ∧ k ≤ M ∧ b = .bool (B0 || (List.range k).any (gapA s.lv t.lv)) ∧ Hid (Kp w X P Q A n c p A' n' c' p' s t)) (fun _ i _ => M - (intOf i).toNat)
      case atStart => exact ⟨0, rfl, by omega, by simp, by with_reducible assumption⟩
      case round =>
        obtain ⟨k, rfl, hk, rfl, kr⟩ := hrel
        clear e1 e2 e3 e4
        by_cases hlt : k < M
        · obtain ⟨hnc, hcm, hrow⟩ := sha_row kr.out.1
          obtain ⟨b, rfl, hbl, hc⟩ := hrow (by omega)
          obtain ⟨x, hx⟩ : ∃ x, atL s.lv k = x := ⟨_, rfl⟩
          obtain ⟨y, hy⟩ : ∃ y, atL t.lv k = y := ⟨_, rfl⟩
          have c0 : wr.cell? ⟨b, k, none⟩ = some (strV x) := hc k x (by rw [← hx]; exact atL_lt (by rw [HN.out]; omega))
          have CA : ∀ X, Hid (Kp w X P Q (some ⟨b, 0, none⟩) n c p A' n' c' p' s t) → Calls Tryd.prog 31 #[.agg #[.slice A' n' c', .bool p'], .int .i64 k] X fun e w' => e = .returned (strV y) ∧ Below X.heap.size X w' := fun X h => by rw [← hy]; exact at_any _ t k X h.out.2.1
          have hga : gapA s.lv t.lv k = (!(x == [43]) && !(x == y)) := by unfold gapA; rw [hx, hy]
          have hnx : (B0 || (List.range (k + 1)).any (gapA s.lv t.lv)) = ((B0 || (List.range k).any (gapA s.lv t.lv)) || (!(x == [43]) && !(x == y))) := by rw [any_succ, hga, Bool.or_assoc]
          obtain ⟨bb, hbb⟩ : ∃ bb, (B0 || (List.range k).any (gapA s.lv t.lv)) = bb := ⟨_, rfl⟩
          rw [hbb] at hnx ⊢
          have HNX := Lib.hid hnx
          have CA := Lib.hid CA
          have hkn : (k : Int) < (n : Int) := by omega
          clear hx hy hga hnx hbb hrow hc
          obtain ⟨e1, e2, e3, e4⟩ := kr.out.2.2.2.2.2
          unfold strV at CA
          cases bb
          · by_cases hx43 : x = [43]
            · subst hx43
              have c1 : wr.cell? ⟨b, k, none⟩ = some (.string ⟨#[43]⟩) := c0
              clear c0
              go_wp2_with fail
              go_quiet (fail)
              go_wp2
              go_roundw
              case rel => exact ⟨k + 1, by go_num, by omega, by rw [HNX.out]; rfl, by first | (with_reducible assumption) | (exact kp_hid kr (drewN_below _ _)) | (exact kp_hid kr (Below.refl _ _).drew) | (exact kp_hid (by with_reducible assumption) (Below.refl _ _).drew)⟩
              case measure => simp [intOf]; omega
            · have f3 : (x == [43]) = false := beq_eq_false_iff_ne.2 hx43
              have f4 : (x != [43]) = true := by unfold bne; rw [f3]; rfl
              rw [f3] at HNX
              clear hx43 e1 e2 e3 e4
              have krd : Hid (Kp w wr.drew P Q (some ⟨b, 0, none⟩) n c p A' n' c' p' s t) := kp_hid kr (Below.refl _ _).drew
              have srd : S5 wr.drew P Q (some ⟨b, 0, none⟩) n c p A' n' c' p' b k x := ⟨krd.out.2.2.2.2.2, c0⟩
              have sr : S5 wr P Q (some ⟨b, 0, none⟩) n c p A' n' c' p' b k x := ⟨kr.out.2.2.2.2.2, c0⟩
              go_wp2_with fail
              go_region_with (go_at_call 31; (with_reducible refine (CA.out _ (by with_reducible assumption)).mono ?_); rintro e xa ⟨rfl, ya⟩; have ka : Hid (Kp w xa P Q (some ⟨b, 0, none⟩) n c p A' n' c' p' s t) := kp_hid (by with_reducible assumption) ya; have sa : S5 xa P Q (some ⟨b, 0, none⟩) n c p A' n' c' p' b k x := ⟨ka.out.2.2.2.2.2, (ya.cell (p := ⟨b, k, none⟩) hbl).trans c0⟩)
              all_goals go_wp2
              all_goals
                go_roundw
                case rel => exact ⟨k + 1, by go_num, by omega, by rw [HNX.out]; rfl, by first | (with_reducible assumption) | (exact kp_hid kr (drewN_below _ _)) | (exact kp_hid kr (Below.refl _ _).drew) | (exact kp_hid (by with_reducible assumption) (Below.refl _ _).drew)⟩
                case measure => simp [intOf]; omega
          · rw [Bool.true_or] at HNX
            go_wp2_with fail
            go_quiet (fail)
            go_wp2
            go_roundw
            case rel => exact ⟨k + 1, by go_num, by omega, by rw [HNX.out], by first | (with_reducible assumption) | (exact kp_hid kr (drewN_below _ _)) | (exact kp_hid kr (Below.refl _ _).drew) | (exact kp_hid (by with_reducible assumption) (Below.refl _ _).drew)⟩
            case measure => simp [intOf]; omega
        · have hkM : k = M := by omega
          subst hkM
          obtain ⟨BB, hBB⟩ : ∃ BB, gapB s t = BB := ⟨_, rfl⟩
          have hb : (B0 || (List.range k).any (gapA s.lv t.lv)) = BB := by rw [← hBB]; exact HGB.out.symm
          have hC : gpB F G = (BB || (p' && !p)) := by rw [HGP.out, Bool.true_and]; unfold gapC; rw [hBB, HP.out, HP'.out]
          have hN1 : BB = true → gapN s t = m := fun h => by unfold gapN; rw [hBB, if_pos h, HM.out]
          have hN2 : BB = false → gapN s t = n + 1 := fun h => by unfold gapN; rw [hBB, h, if_neg (by simp), HN.out]
          rw [hb]
          have CFI : ∀ (N : Nat), 1 ≤ N → N ≤ 64 → ∀ X, Hid (Kp w X P Q A n c p A' n' c' p' s t) → Calls Tryd.prog 32 #[.int .i64 N, .func (.func 31) #[.agg #[.slice A' n' c', .bool p']] #[], .string ⟨fo.toArray⟩] X fun e w' => e = .returned (strV (jn (fil N (atL t.lv) fo))) ∧ Below X.heap.size X w' := fun N h1 h2 X h =>
            filled_any 31 #[.agg #[.slice A' n' c', .bool p']] #[] (atL t.lv) N fo X h1 (by omega) (by rw [← HFO.out, ← HS.out, ← HTT.out]; exact fil_len F G N (by omega) _ (fun i => .inr rfl)) (enters_of Tryd.func31 (by kernel_rfl) rfl) (fun i Y hi hb => at_any _ t i Y (h.out.below hb).2.1)
          have hr : ∀ N, gapN s t = N → gpB F G = true → r = .tuple #[strV (jn (fil N (atL t.lv) fo)), .bool true] := fun N h1 h2 => by
            rw [← HR.out, h2, ← h1, ← HFO.out, ← HS.out, ← HTT.out]; rfl
          have hr0 : gpB F G = false → r = .tuple #[.string ⟨#[]⟩, .bool false] := fun h => by rw [← HR.out, h]; rfl
          have CFI := Lib.hid CFI
          have HR1 := Lib.hid hr
          have HR0 := Lib.hid hr0
          obtain ⟨e1, e2, e3, e4⟩ := kr.out.2.2.2.2.2
          clear hb hBB hr hr0
          cases BB
          · have h2 := hN2 rfl
            cases p'
            · have hr := HR0.out (by rw [hC]; rfl)
              clear hC hN1 hN2 h2
              go_wp2
              go_ret2
              exact ⟨by rw [hr]; rfl, kr.out.2.2.1⟩
            · cases p
              · have hr := Lib.hid (HR1.out _ h2 (by rw [hC]; rfl))
                have CF := Lib.hid (CFI.out (n + 1) (by omega) (by omega))
                clear hC hN1 hN2 h2
                go_wp2_with fail
                refine (CF.out _ kr).mono ?_
                rintro e x3 ⟨rfl, y3⟩
                have k3 := kp_hid kr y3
                go_wp2
                go_ret2
                exact ⟨by rw [hr.out]; rfl, k3.out.2.2.1⟩
              · have hr := HR0.out (by rw [hC]; rfl)
                clear hC hN1 hN2 h2
                go_wp2
                go_ret2
                exact ⟨by rw [hr]; rfl, kr.out.2.2.1⟩
          · have h1 := hN1 rfl
            have hr := Lib.hid (HR1.out _ h1 (by rw [hC]; rfl))
            have CF := Lib.hid (CFI.out m hmp (by omega))
            clear hC hN1 hN2 h1
            go_wp2_with fail
            refine (CF.out _ kr).mono ?_
            rintro e x3 ⟨rfl, y3⟩
            have k3 := kp_hid kr y3
            go_wp2
            go_ret2
            exact ⟨by rw [hr.out]; rfl, k3.out.2.2.1⟩
end Go.Proofs.YtichhppfdjkgkaaDoor
