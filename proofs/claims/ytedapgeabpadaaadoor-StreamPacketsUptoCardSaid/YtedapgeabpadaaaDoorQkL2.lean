/- The walk of the laws' packets: the filters. -/
import Derived.Test.YtedapgeabpadaaaDoorQkL1
set_option linter.unusedVariables false
namespace Go.Proofs.YtedapgeabpadaaaDoor
open Go.RowKit Pl

theorem info_strF : (Tryd.prog.info? 9).map (fun i => (i.zero, i.size, i.bytes)) = some (some (.string ⟨#[]⟩), 1, 16) := by kernel_rfl
theorem info_strsF : (Tryd.prog.info? 22).map (fun i => i.size) = some 1 := by kernel_rfl
theorem map_some {α β : Type} {o : Option α} {f : α → β} {b : β} (h : o.map f = some b) : ∃ i, o = some i ∧ f i = b := by
  cases o with
  | none => cases h
  | some i => exact ⟨i, rfl, by simpa using h⟩
set_option maxRecDepth 100000 in
set_option maxHeartbeats 4000000 in
theorem pk_9 {x0 x6 x7 x8 x9 x10 x11 x12 x13 x14 x15 x16 x17 x18 x19 x20 x21 x22 x23 x24 x25 x26 x27 x28 x29 x30 x31 x32 x33 x34 x35 x36 x37 x38 x39 x40 x41 x42 x43 x44 x45 x46 x47 x48 x49 x50 x51 x52 x53 x54 x55 x56 x57 x58 x59 x60 x61 x62 x63 x64 x65 x66 x67 x68 x69 x70 x71 x72 x73 x74 x75 x76 x77 x78 x79 x80 x81 x82 x83 x84 x85 x86 x87 x88 x89 x90 x91 x92 x93 x94 x95 x96 x97 x98 x99 x100 x101 x102 x103 x104 x105 x106 x107 x108 x109 x110 x111 x112 x113 x114 x115 x116 x117 x118 x119 x120 x121 x122 x123 x124 x125 x126 x127 x128 x129 x130 x131 x132 x133 x134 x135 x136 x137 x138 x139 x140 x141 x142 x143 x144 x145 x146 x147 x148 x149 x150 x151 x152 x153 x154 x155 x156 x157 x158 x159 x160 x161 x162 x163 x164 x165 x166 x167 x168 x169 x170 x171 x172 x173 x174 x175 x176 x177 x178 x179 x180 x181 x182 x183 x184 x185 x186 x187 x188 x189 x190 x191 x192 x193 x194 x195 x196 x197 x198 x199 x200 x201 x202 x203 x204 x205 x206 x207 : Value} {w : World} {p : Pk} {m m1 m2 : Hs} {ga gb : Nat} {X : World} (hP : PkIn .u8 w p m) (h : Ld w p m ga gb X { cutP p with filters := [] } m1 m2) :
    (pkc 9).wp Tryd.prog (bodyPost Tryd.prog Tryd.f14 (PkPost w p)) { tmps := #[x0, .pointer (some ⟨w.heap.size, 0, none⟩), .pointer (some ⟨w.heap.size + 1, 0, none⟩), .pointer (some ⟨w.heap.size + 1 + 1, 0, none⟩), .pointer (some ⟨ga, 0, none⟩), .pointer (some ⟨gb, 0, none⟩), x6, x7, x8, x9, x10, x11, x12, x13, x14, x15, x16, x17, x18, x19, x20, x21, x22, x23, x24, x25, x26, x27, x28, x29, x30, x31, x32, x33, x34, x35, x36, x37, x38, x39, x40, x41, x42, x43, x44, x45, x46, x47, x48, x49, x50, x51, x52, x53, x54, x55, x56, x57, x58, x59, x60, x61, x62, x63, x64, x65, x66, x67, x68, x69, x70, x71, x72, x73, x74, x75, x76, x77, x78, x79, x80, x81, x82, x83, x84, x85, x86, x87, x88, x89, x90, x91, x92, x93, x94, x95, x96, x97, x98, x99, x100, x101, x102, x103, x104, x105, x106, x107, x108, x109, x110, x111, x112, x113, x114, x115, x116, x117, x118, x119, x120, x121, x122, x123, x124, x125, x126, x127, x128, x129, x130, x131, x132, x133, x134, x135, x136, x137, x138, x139, x140, x141, x142, x143, x144, x145, x146, x147, x148, x149, x150, x151, x152, x153, x154, x155, x156, x157, x158, x159, x160, x161, x162, x163, x164, x165, x166, x167, x168, x169, x170, x171, x172, x173, x174, x175, x176, x177, x178, x179, x180, x181, x182, x183, x184, x185, x186, x187, x188, x189, x190, x191, x192, x193, x194, x195, x196, x197, x198, x199, x200, x201, x202, x203, x204, x205, x206, x207], defers := [] } X := by
  obtain ⟨⟨Af, nf, kf⟩, hmf⟩ : ∃ d : Hd, m.f = d := ⟨_, rfl⟩
  have k25 : X.cell? ⟨w.heap.size, 25, none⟩ = some (.slice Af nf kf) := by
    have : X.cell? ⟨w.heap.size, 25, none⟩ = some (.slice m.f.A m.f.n m.f.cap) := h.x.cell 25
    rw [hmf] at this; exact this
  obtain ⟨M, hM⟩ : ∃ M, min nf 80 = M := ⟨_, rfl⟩
  have hn : p.filters.length = nf := by rw [hP.fn, hmf]
  have hcap : nf ≤ kf := by have := hP.fc; rw [hmf] at this; exact this
  have hMI : min (nf : Int) 80 = (M : Int) := by omega
  have hMK : (M : Int) ≤ (kf : Int) := by omega
  have hAf : (if kf = 0 then Af else Af.map (·.add 0)) = Af := by split <;> cases Af <;> simp [Addr.add]
  have HP := Lib.hid hP
  have HF := Lib.hid hmf
  have HN := Lib.hid hn
  have HM := Lib.hid hM
  have H := Lib.hid h
  have hM80 : M ≤ 80 := by omega
  have hMl : M ≤ p.filters.length := by omega
  have hend : p.filters.take M = p.filters.take 80 := by
    rw [← hM, ← hn]
    by_cases hl : p.filters.length ≤ 80
    · rw [Nat.min_eq_left hl, List.take_length, List.take_of_length_le hl]
    · rw [Nat.min_eq_right (by omega)]
  have HE := Lib.hid hend
  clear hP hmf hn hM h hcap hend
  conv => arg 2; whnf
  refine wp_seq_k ?_
  intro K hK
  have HK := Lib.hid hK
  clear hK
  go_wp2_with fail
  go_loopw [189] (fun i wr => ∃ (k : Nat) (n1 n2 : Hs), i = .int .i64 k ∧ k ≤ M ∧ Hid (Ld w p m ga gb wr { cutP p with filters := (p.filters.take k) } n1 n2)) (fun i _ => M - (intOf i).toNat)
  case atStart => exact ⟨0, m1, m2, rfl, Nat.zero_le _, Lib.hid H.out⟩
  case round =>
    obtain ⟨k, n1, n2, rfl, hk, hL⟩ := hrel
    by_cases hlt : k < M
    · have hkM : (k : Int) < (M : Int) := by omega
      obtain ⟨x, hx⟩ : ∃ x, p.filters[k]? = some x := ⟨_, List.getElem?_eq_getElem (by omega)⟩
      obtain ⟨b, o, e0, hl, hcl⟩ := HP.out.fr.below hL.out.below (by rw [List.length_map, HN.out]; have := HM.out; omega)
      rw [HF.out] at e0
      simp only at e0
      have c0 := hcl k (.string x) (by rw [List.getElem?_map, hx]; rfl)
      have hx := Lib.hid hx
      clear hcl hl
      go_wp2_with fail
      refine wp_region_held (S := fun w' => True) (by kernel_rfl) ?_
      change wpAnyH _ _ _ _ _ _ _ _ wr.drew
      refine wpAnyH_takeD (i := 0) (d := 193) (v := .pointer (some ⟨ga, 25, none⟩)) rfl rfl (by kernel_rfl) (by kernel_rfl) (by kernel_rfl) (fun _ _ _ h => h) (y_field _ rfl rfl rfl (fun w => by go_simp)) trivial ?_
      simp only [Act.put, List.setIfInBounds_toArray, List.set_cons_succ, List.set_cons_zero]
      refine wpAnyH_takeD (i := 2) (d := 195) (v := .string x) rfl rfl (by kernel_rfl) (by kernel_rfl) (by kernel_rfl) (fun _ _ _ h => h) (y_move _ rfl rfl rfl) trivial ?_
      simp only [Act.put, List.setIfInBounds_toArray, List.set_cons_succ, List.set_cons_zero]
      refine wpAnyH_takeD (i := 5) (d := 198) (v := .pointer (some ⟨gb, 25, none⟩)) rfl rfl (by kernel_rfl) (by kernel_rfl) (by kernel_rfl) (fun _ _ _ h => h) (y_field _ rfl rfl rfl (fun w => by go_simp)) trivial ?_
      simp only [Act.put, List.setIfInBounds_toArray, List.set_cons_succ, List.set_cons_zero]
      refine wpAnyH_takeD (i := 7) (d := 200) (v := .string x) rfl rfl (by kernel_rfl) (by kernel_rfl) (by kernel_rfl) (fun _ _ _ h => h) (y_move _ rfl rfl rfl) trivial ?_
      simp only [Act.put, List.setIfInBounds_toArray, List.set_cons_succ, List.set_cons_zero]
      generalize hA0 : ({ tmps := _, defers := _ } : Act) = a0
      change wpAnyH _ _ _ _ _ 10 (lst 14 [0, 2, 5, 7]) _ _
      have hsz : a0.tmps.size = 208 := by rw [← hA0]; simp
      have e193 : a0.eval (.tmp 193) = .pointer (some ⟨ga, 25, none⟩) := by rw [← hA0]; rfl
      have e195 : a0.eval (.tmp 195) = .string x := by rw [← hA0]; rfl
      have e198 : a0.eval (.tmp 198) = .pointer (some ⟨gb, 25, none⟩) := by rw [← hA0]; rfl
      have e200 : a0.eval (.tmp 200) = .string x := by rw [← hA0]; rfl
      have e4 : a0.eval (.tmp 4) = .pointer (some ⟨ga, 0, none⟩) := by rw [← hA0]; rfl
      have e5 : a0.eval (.tmp 5) = .pointer (some ⟨gb, 0, none⟩) := by rw [← hA0]; rfl
      obtain ⟨si0, hsi0, hz00, hz10, hz20⟩ := info_parts info_strF
      obtain ⟨si1, hsi1, hz01, hz11, hz21⟩ := info_parts info_strF
      obtain ⟨li0, hli0, hl10⟩ := map_some info_strsF
      obtain ⟨li1, hli1, hl11⟩ := map_some info_strsF
      obtain ⟨Lk, hLk⟩ : ∃ L, p.filters.take k = L := ⟨_, rfl⟩
      have hll : Lk.length ≤ 80 := by rw [← hLk, List.length_take]; omega
      have two := hL.out.two
      rw [hLk] at two
      refine appends2 (cA := ⟨ga, 25, 45, pkA .u8 { cutP p with filters := Lk } n1, 9, 1, w.heap.size, n1.f.v, Lk.length, Lk.map Value.string, #[.string x], 194, 196, 197, 203⟩) (cB := ⟨gb, 25, 52, pkA .i64 { cutP p with filters := Lk } n2, 9, 1, w.heap.size, n2.f.v, Lk.length, Lk.map Value.string, #[.string x], 199, 201, 202, 204⟩) (D := [194, 196, 197, 203, 199, 201, 202, 204]) (n := 10) (i0 := 1) (i1 := 3) (i2 := 4) (i3 := 10) (i4 := 11) (j0 := 6) (j1 := 8) (j2 := 9) (j3 := 12) (j4 := 13) ?_ ?_ (by kernel_rfl) (by decide) (by simp) (by kernel_rfl) (by dsimp only; decide) two.ff ?_ ?_ (fun _ _ => trivial) hL.out.below.size hL.out.below.size two.a.drew two.f1 two.b.drew two.f2 ?_
      · exact ⟨by rw [hsz]; dsimp only; decide, by rw [hsz]; dsimp only; decide, by rw [hsz]; dsimp only; decide, by rw [hsz]; dsimp only; decide, by dsimp only; decide, by dsimp only; decide, by dsimp only; decide, by dsimp only; decide, by dsimp only; decide, mk_load _ rfl rfl rfl rfl (by decide) e193 Tryd.underlying22, mk_make _ rfl rfl rfl rfl (by decide) e195 Tryd.underlying22 hsi0 hz00 hz10 (by decide) (by decide) (fill_one rfl), ⟨_, _, _, _, _, rfl, rfl, rfl, rfl, Tryd.underlying22, hsi0, hz00, hz10, hz20, rfl, by simp only; omega⟩, mk_fa _ rfl rfl rfl rfl (by decide) e4 (fun w => by go_simp), mk_put _ rfl rfl rfl rfl hli0 hl10, by dsimp only; decide, by dsimp only; decide, rfl, by simp [Value.oneCell'], by simp only; unfold maxLen; omega, rfl⟩
      · exact ⟨by rw [hsz]; dsimp only; decide, by rw [hsz]; dsimp only; decide, by rw [hsz]; dsimp only; decide, by rw [hsz]; dsimp only; decide, by dsimp only; decide, by dsimp only; decide, by dsimp only; decide, by dsimp only; decide, by dsimp only; decide, mk_load _ rfl rfl rfl rfl (by decide) e198 Tryd.underlying22, mk_make _ rfl rfl rfl rfl (by decide) e200 Tryd.underlying22 hsi1 hz01 hz11 (by decide) (by decide) (fill_one rfl), ⟨_, _, _, _, _, rfl, rfl, rfl, rfl, Tryd.underlying22, hsi1, hz01, hz11, hz21, rfl, by simp only; omega⟩, mk_fa _ rfl rfl rfl rfl (by decide) e5 (fun w => by go_simp), mk_put _ rfl rfl rfl rfl hli1 hl11, by dsimp only; decide, by dsimp only; decide, rfl, by simp [Value.oneCell'], by simp only; unfold maxLen; omega, rfl⟩
      · exact x_side two.a two.b (by decide) two.f1 two.f2 (by decide) (by decide) two.ff
      · exact x_side two.b two.a (by decide) two.f2 two.f1 (by decide) (by decide) (fun g h1 h2 => two.ff g h2 h1)
      intro a w' vA vB hag hm hA hnA hB hnB hab
      have mX : Mod (fun g => (g = ga ∨ n1.f.v.ownBlock = some g) ∨ (g = gb ∨ n2.f.v.ownBlock = some g)) wr w' := (Mod.drew (Mod.refl _ wr)).trans hm
      have two' := two_filters (H0 := 0) (c := x) two mX hA hnA.2.1 hB hnB.2.1 hab
      have gx : w.heap.size ≠ ga ∧ w.heap.size + 1 ≠ ga ∧ w.heap.size + 1 + 1 ≠ ga ∧ w.heap.size ≠ gb ∧ w.heap.size + 1 ≠ gb ∧ w.heap.size + 1 + 1 ≠ gb := by have := hL.out.g1; have := hL.out.g2; omega
      have ld : Hid (Ld w p m ga gb w' { cutP p with filters := (p.filters.take (k + 1)) } { n1 with f := hdOf vA } { n2 with f := hdOf vB }) := by
        refine Lib.hid ⟨?_, blk_kept mX hL.out.x gx.1 gx.2.2.2.1 two.f1 two.f2 (by decide) (by decide), blk_kept mX hL.out.r1 gx.2.1 gx.2.2.2.2.1 two.f1 two.f2 (by decide) (by decide), blk_kept mX hL.out.r2 gx.2.2.1 gx.2.2.2.2.2 two.f1 two.f2 (by decide) (by decide), hL.out.below.trans (mX.below hL.out.below.size ?_), hL.out.g1, hL.out.g2⟩
        · have e : p.filters.take (k + 1) = Lk ++ [x] := by rw [List.take_add_one, hLk, hx.out]; rfl
          rw [e]; exact two'
        · rintro g ((rfl | hg) | (rfl | hg))
          · have := hL.out.g1; omega
          · exact (two.f1.lt g hg).1
          · have := hL.out.g1; have := hL.out.g2; omega
          · exact (two.f2.lt g hg).1
      obtain ⟨f, hf⟩ : ∃ f : Nat → Value, a = putAll f [194, 196, 197, 203, 199, 201, 202, 204] a0 := ⟨_, hag.form⟩
      rw [hf, ← hA0]
      simp only [putAll, Act.put, List.setIfInBounds_toArray, List.set_cons_succ, List.set_cons_zero]
      clear hf hag hA hnA hB hnB hab hm two' mX two hA0 e193 e195 e198 e200 e4 e5 hsz gx
      go_wp2_with fail
      go_roundw
      case rel => exact ⟨k + 1, by go_num, by omega, _, _, ld⟩
      case measure => simp [intOf]; omega
    · obtain rfl : k = M := by omega
      go_wp2_with fail
      have hL2 := hL.out
      rw [HE.out] at hL2
      exact HK.out _ _ (pk_10 HP.out.fits hL2)
end Go.Proofs.YtedapgeabpadaaaDoor
