/- The walk of the laws' packets: the codes. -/
import Derived.Test.YtedapgeabpadaaaDoorQkL3
set_option linter.unusedVariables false
namespace Go.Proofs.YtedapgeabpadaaaDoor
open Go.RowKit Pl

theorem info_code : (Tryd.prog.info? 30).map (fun i => (i.zero, i.size, i.bytes)) = some (some (.int .u8 0), 1, 1) := by kernel_rfl
theorem info_int : (Tryd.prog.info? 3).map (fun i => (i.zero, i.size, i.bytes)) = some (some (.int .i64 0), 1, 8) := by kernel_rfl
theorem info_codes : (Tryd.prog.info? 39).map (fun i => i.size) = some 1 := by kernel_rfl
theorem info_ints : (Tryd.prog.info? 46).map (fun i => i.size) = some 1 := by kernel_rfl
set_option maxRecDepth 100000 in
set_option maxHeartbeats 4000000 in
theorem pk_7 {x0 x6 x7 x8 x9 x10 x11 x12 x13 x14 x15 x16 x17 x18 x19 x20 x21 x22 x23 x24 x25 x26 x27 x28 x29 x30 x31 x32 x33 x34 x35 x36 x37 x38 x39 x40 x41 x42 x43 x44 x45 x46 x47 x48 x49 x50 x51 x52 x53 x54 x55 x56 x57 x58 x59 x60 x61 x62 x63 x64 x65 x66 x67 x68 x69 x70 x71 x72 x73 x74 x75 x76 x77 x78 x79 x80 x81 x82 x83 x84 x85 x86 x87 x88 x89 x90 x91 x92 x93 x94 x95 x96 x97 x98 x99 x100 x101 x102 x103 x104 x105 x106 x107 x108 x109 x110 x111 x112 x113 x114 x115 x116 x117 x118 x119 x120 x121 x122 x123 x124 x125 x126 x127 x128 x129 x130 x131 x132 x133 x134 x135 x136 x137 x138 x139 x140 x141 x142 x143 x144 x145 x146 x147 x148 x149 x150 x151 x152 x153 x154 x155 x156 x157 x158 x159 x160 x161 x162 x163 x164 x165 x166 x167 x168 x169 x170 x171 x172 x173 x174 x175 x176 x177 x178 x179 x180 x181 x182 x183 x184 x185 x186 x187 x188 x189 x190 x191 x192 x193 x194 x195 x196 x197 x198 x199 x200 x201 x202 x203 x204 x205 x206 x207 : Value} {w : World} {p : Pk} {m m1 m2 : Hs} {ga gb : Nat} {X : World} (hP : PkIn .u8 w p m) (h : Ld w p m ga gb X { cutP p with codes := [], subs := [], filters := [] } m1 m2) :
    (pkc 7).wp Tryd.prog (bodyPost Tryd.prog Tryd.f14 (PkPost w p)) { tmps := #[x0, .pointer (some ⟨w.heap.size, 0, none⟩), .pointer (some ⟨w.heap.size + 1, 0, none⟩), .pointer (some ⟨w.heap.size + 1 + 1, 0, none⟩), .pointer (some ⟨ga, 0, none⟩), .pointer (some ⟨gb, 0, none⟩), x6, x7, x8, x9, x10, x11, x12, x13, x14, x15, x16, x17, x18, x19, x20, x21, x22, x23, x24, x25, x26, x27, x28, x29, x30, x31, x32, x33, x34, x35, x36, x37, x38, x39, x40, x41, x42, x43, x44, x45, x46, x47, x48, x49, x50, x51, x52, x53, x54, x55, x56, x57, x58, x59, x60, x61, x62, x63, x64, x65, x66, x67, x68, x69, x70, x71, x72, x73, x74, x75, x76, x77, x78, x79, x80, x81, x82, x83, x84, x85, x86, x87, x88, x89, x90, x91, x92, x93, x94, x95, x96, x97, x98, x99, x100, x101, x102, x103, x104, x105, x106, x107, x108, x109, x110, x111, x112, x113, x114, x115, x116, x117, x118, x119, x120, x121, x122, x123, x124, x125, x126, x127, x128, x129, x130, x131, x132, x133, x134, x135, x136, x137, x138, x139, x140, x141, x142, x143, x144, x145, x146, x147, x148, x149, x150, x151, x152, x153, x154, x155, x156, x157, x158, x159, x160, x161, x162, x163, x164, x165, x166, x167, x168, x169, x170, x171, x172, x173, x174, x175, x176, x177, x178, x179, x180, x181, x182, x183, x184, x185, x186, x187, x188, x189, x190, x191, x192, x193, x194, x195, x196, x197, x198, x199, x200, x201, x202, x203, x204, x205, x206, x207], defers := [] } X := by
  obtain ⟨⟨Af, nf, kf⟩, hmf⟩ : ∃ d : Hd, m.c = d := ⟨_, rfl⟩
  have k25 : X.cell? ⟨w.heap.size, 8, none⟩ = some (.slice Af nf kf) := by
    have : X.cell? ⟨w.heap.size, 8, none⟩ = some (.slice m.c.A m.c.n m.c.cap) := h.x.cell 8
    rw [hmf] at this; exact this
  obtain ⟨M, hM⟩ : ∃ M, min nf 80 = M := ⟨_, rfl⟩
  have hn : p.codes.length = nf := by rw [hP.cn, hmf]
  have hcap : nf ≤ kf := by have := hP.cc; rw [hmf] at this; exact this
  have hMI : min (nf : Int) 80 = (M : Int) := by omega
  have hMK : (M : Int) ≤ (kf : Int) := by omega
  have hAf : (if kf = 0 then Af else Af.map (·.add 0)) = Af := by split <;> cases Af <;> simp [Addr.add]
  have HP := Lib.hid hP
  have HF := Lib.hid hmf
  have HN := Lib.hid hn
  have HM := Lib.hid hM
  have H := Lib.hid h
  have hM80 : M ≤ 80 := by omega
  have hMl : M ≤ p.codes.length := by omega
  have hend : p.codes.take M = p.codes.take 80 := by
    rw [← hM, ← hn]
    by_cases hl : p.codes.length ≤ 80
    · rw [Nat.min_eq_left hl, List.take_length, List.take_of_length_le hl]
    · rw [Nat.min_eq_right (by omega)]
  have HE := Lib.hid hend
  clear hP hmf hn hM h hcap hend
  conv => arg 2; whnf
  refine wp_seq_k ?_
  intro K hK
  have HK := Lib.hid hK
  clear hK
  go_wp2_with fail
  go_loopw [138] (fun i wr => ∃ (k : Nat) (n1 n2 : Hs), i = .int .i64 k ∧ k ≤ M ∧ Hid (Ld w p m ga gb wr { cutP p with codes := (p.codes.take k), subs := [], filters := [] } n1 n2)) (fun i _ => M - (intOf i).toNat)
  case atStart => exact ⟨0, m1, m2, rfl, Nat.zero_le _, Lib.hid H.out⟩
  case round =>
    obtain ⟨k, n1, n2, rfl, hk, hL⟩ := hrel
    by_cases hlt : k < M
    · have hkM : (k : Int) < (M : Int) := by omega
      obtain ⟨x, hx⟩ : ∃ x, p.codes[k]? = some x := ⟨_, List.getElem?_eq_getElem (by omega)⟩
      obtain ⟨b, o, e0, hl, hcl⟩ := HP.out.cr.below hL.out.below (by rw [List.length_map, HN.out]; have := HM.out; omega)
      rw [HF.out] at e0
      simp only at e0
      have c0 := hcl k (.int .u8 x) (by rw [List.getElem?_map, hx]; rfl)
      have hx01 := HP.out.fits.codes.2 x (List.mem_of_getElem? hx)
      have hwr : IntKind.i64.wrap x = x := IntWalk.i64_in _ (by omega)
      have hx := Lib.hid hx
      clear hcl hl hx01
      go_wp2_with fail
      refine wp_region_held (S := fun w' => True) (by kernel_rfl) ?_
      change wpAnyH _ _ _ _ _ _ _ _ wr.drew
      refine wpAnyH_takeD (i := 0) (d := 142) (v := .pointer (some ⟨ga, 8, none⟩)) rfl rfl (by kernel_rfl) (by kernel_rfl) (by kernel_rfl) (fun _ _ _ h => h) (y_field _ rfl rfl rfl (fun w => by go_simp)) trivial ?_
      simp only [Act.put, List.setIfInBounds_toArray, List.set_cons_succ, List.set_cons_zero]
      refine wpAnyH_takeD (i := 2) (d := 144) (v := .int .u8 x) rfl rfl (by kernel_rfl) (by kernel_rfl) (by kernel_rfl) (fun _ _ _ h => h) (y_move _ rfl rfl rfl) trivial ?_
      simp only [Act.put, List.setIfInBounds_toArray, List.set_cons_succ, List.set_cons_zero]
      refine wpAnyH_takeD (i := 5) (d := 147) (v := .pointer (some ⟨gb, 8, none⟩)) rfl rfl (by kernel_rfl) (by kernel_rfl) (by kernel_rfl) (fun _ _ _ h => h) (y_field _ rfl rfl rfl (fun w => by go_simp)) trivial ?_
      simp only [Act.put, List.setIfInBounds_toArray, List.set_cons_succ, List.set_cons_zero]
      refine wpAnyH_takeD (i := 7) (d := 149) (v := .int .u8 x) rfl rfl (by kernel_rfl) (by kernel_rfl) (by kernel_rfl) (fun _ _ _ h => h) (y_move _ rfl rfl rfl) trivial ?_
      simp only [Act.put, List.setIfInBounds_toArray, List.set_cons_succ, List.set_cons_zero]
      refine wpAnyH_takeD (i := 8) (d := 150) (v := .int .i64 x) rfl rfl (by kernel_rfl) (by kernel_rfl) (by kernel_rfl) (fun _ _ _ h => h) (y_conv _ rfl rfl rfl (fun w => by go_simp)) trivial ?_
      simp only [Act.put, List.setIfInBounds_toArray, List.set_cons_succ, List.set_cons_zero]
      generalize hA0 : ({ tmps := _, defers := _ } : Act) = a0
      change wpAnyH _ _ _ _ _ 10 (lst 15 [0, 2, 5, 7, 8]) _ _
      have hsz : a0.tmps.size = 208 := by rw [← hA0]; simp
      have e142 : a0.eval (.tmp 142) = .pointer (some ⟨ga, 8, none⟩) := by rw [← hA0]; rfl
      have e144 : a0.eval (.tmp 144) = .int .u8 x := by rw [← hA0]; rfl
      have e147 : a0.eval (.tmp 147) = .pointer (some ⟨gb, 8, none⟩) := by rw [← hA0]; rfl
      have e149 : a0.eval (.tmp 149) = .int .u8 x := by rw [← hA0]; rfl
      have e150 : a0.eval (.tmp 150) = .int .i64 x := by rw [← hA0]; rfl
      have e4 : a0.eval (.tmp 4) = .pointer (some ⟨ga, 0, none⟩) := by rw [← hA0]; rfl
      have e5 : a0.eval (.tmp 5) = .pointer (some ⟨gb, 0, none⟩) := by rw [← hA0]; rfl
      obtain ⟨si0, hsi0, hz00, hz10, hz20⟩ := info_parts info_code
      obtain ⟨si1, hsi1, hz01, hz11, hz21⟩ := info_parts info_int
      obtain ⟨li0, hli0, hl10⟩ := map_some info_codes
      obtain ⟨li1, hli1, hl11⟩ := map_some info_ints
      obtain ⟨Lk, hLk⟩ : ∃ L, p.codes.take k = L := ⟨_, rfl⟩
      have hll : Lk.length ≤ 80 := by rw [← hLk, List.length_take]; omega
      have two := hL.out.two
      rw [hLk] at two
      refine appends2 (cA := ⟨ga, 8, 45, pkA .u8 { cutP p with codes := Lk, subs := [], filters := [] } n1, 30, 1, w.heap.size, n1.c.v, Lk.length, Lk.map (Value.int .u8), #[.int .u8 x], 143, 145, 146, 153⟩) (cB := ⟨gb, 8, 52, pkA .i64 { cutP p with codes := Lk, subs := [], filters := [] } n2, 3, 1, w.heap.size, n2.c.v, Lk.length, Lk.map (Value.int .i64), #[.int .i64 x], 148, 151, 152, 154⟩) (D := [143, 145, 146, 153, 148, 151, 152, 154]) (n := 10) (i0 := 1) (i1 := 3) (i2 := 4) (i3 := 11) (i4 := 12) (j0 := 6) (j1 := 9) (j2 := 10) (j3 := 13) (j4 := 14) ?_ ?_ (by kernel_rfl) (by decide) (by simp) (by kernel_rfl) (by dsimp only; decide) (own_apart two.c1 two.c2 (by decide)) ?_ ?_ (fun _ _ => trivial) hL.out.below.size hL.out.below.size two.a.drew two.c1 two.b.drew two.c2 ?_
      · exact ⟨by rw [hsz]; dsimp only; decide, by rw [hsz]; dsimp only; decide, by rw [hsz]; dsimp only; decide, by rw [hsz]; dsimp only; decide, by dsimp only; decide, by dsimp only; decide, by dsimp only; decide, by dsimp only; decide, by dsimp only; decide, mk_load _ rfl rfl rfl rfl (by decide) e142 Tryd.underlying39, mk_make _ rfl rfl rfl rfl (by decide) e144 Tryd.underlying39 hsi0 hz00 hz10 (by decide) (by decide) (fill_one rfl), ⟨_, _, _, _, _, rfl, rfl, rfl, rfl, Tryd.underlying39, hsi0, hz00, hz10, hz20, rfl, by simp only; omega⟩, mk_fa _ rfl rfl rfl rfl (by decide) e4 (fun w => by go_simp), mk_put _ rfl rfl rfl rfl hli0 hl10, by dsimp only; decide, by dsimp only; decide, rfl, by simp [Value.oneCell'], by simp only; unfold maxLen; omega, rfl⟩
      · exact ⟨by rw [hsz]; dsimp only; decide, by rw [hsz]; dsimp only; decide, by rw [hsz]; dsimp only; decide, by rw [hsz]; dsimp only; decide, by dsimp only; decide, by dsimp only; decide, by dsimp only; decide, by dsimp only; decide, by dsimp only; decide, mk_load _ rfl rfl rfl rfl (by decide) e147 Tryd.underlying46, mk_make _ rfl rfl rfl rfl (by decide) e150 Tryd.underlying46 hsi1 hz01 hz11 (by decide) (by decide) (fill_one rfl), ⟨_, _, _, _, _, rfl, rfl, rfl, rfl, Tryd.underlying46, hsi1, hz01, hz11, hz21, rfl, by simp only; omega⟩, mk_fa _ rfl rfl rfl rfl (by decide) e5 (fun w => by go_simp), mk_put _ rfl rfl rfl rfl hli1 hl11, by dsimp only; decide, by dsimp only; decide, rfl, by simp [Value.oneCell'], by simp only; unfold maxLen; omega, rfl⟩
      · exact x_side two.a two.b (by decide) two.c1 two.c2 (by decide) (by decide) (own_apart two.c1 two.c2 (by decide))
      · exact x_side two.b two.a (by decide) two.c2 two.c1 (by decide) (by decide) (fun g h1 h2 => (own_apart two.c1 two.c2 (by decide)) g h2 h1)
      intro a w' vA vB hag hm hA hnA hB hnB hab
      have mX : Mod (fun g => (g = ga ∨ n1.c.v.ownBlock = some g) ∨ (g = gb ∨ n2.c.v.ownBlock = some g)) wr w' := (Mod.drew (Mod.refl _ wr)).trans hm
      have two' := two_codes (c := x) two mX hA hnA.2.1 hB hnB.2.1
      have gx : w.heap.size ≠ ga ∧ w.heap.size + 1 ≠ ga ∧ w.heap.size + 1 + 1 ≠ ga ∧ w.heap.size ≠ gb ∧ w.heap.size + 1 ≠ gb ∧ w.heap.size + 1 + 1 ≠ gb := by have := hL.out.g1; have := hL.out.g2; omega
      have ld : Hid (Ld w p m ga gb w' { cutP p with codes := (p.codes.take (k + 1)), subs := [], filters := [] } { n1 with c := hdOf vA } { n2 with c := hdOf vB }) := by
        refine Lib.hid ⟨?_, blk_kept mX hL.out.x gx.1 gx.2.2.2.1 two.c1 two.c2 (by decide) (by decide), blk_kept mX hL.out.r1 gx.2.1 gx.2.2.2.2.1 two.c1 two.c2 (by decide) (by decide), blk_kept mX hL.out.r2 gx.2.2.1 gx.2.2.2.2.2 two.c1 two.c2 (by decide) (by decide), hL.out.below.trans (mX.below hL.out.below.size ?_), hL.out.g1, hL.out.g2⟩
        · have e : p.codes.take (k + 1) = Lk ++ [x] := by rw [List.take_add_one, hLk, hx.out]; rfl
          rw [e]; exact two'
        · rintro g ((rfl | hg) | (rfl | hg))
          · have := hL.out.g1; omega
          · exact (two.c1.lt g hg).1
          · have := hL.out.g1; have := hL.out.g2; omega
          · exact (two.c2.lt g hg).1
      obtain ⟨f, hf⟩ : ∃ f : Nat → Value, a = putAll f [143, 145, 146, 153, 148, 151, 152, 154] a0 := ⟨_, hag.form⟩
      rw [hf, ← hA0]
      simp only [putAll, Act.put, List.setIfInBounds_toArray, List.set_cons_succ, List.set_cons_zero]
      clear hf hag hA hnA hB hnB hab hm two' mX two hA0 e142 e144 e147 e149 e150 e4 e5 hsz gx
      go_wp2_with fail
      go_roundw
      case rel => exact ⟨k + 1, by go_num, by omega, _, _, ld⟩
      case measure => simp [intOf]; omega
    · obtain rfl : k = M := by omega
      go_wp2_with fail
      have hL2 := hL.out
      rw [HE.out] at hL2
      exact HK.out _ _ (pk_8 HP.out hL2)
end Go.Proofs.YtedapgeabpadaaaDoor
