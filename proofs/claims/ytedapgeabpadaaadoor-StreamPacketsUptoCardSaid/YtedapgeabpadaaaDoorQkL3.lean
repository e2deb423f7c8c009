/- The walk of the laws' packets: the filters of a 87SCRIBE. -/
import Derived.Test.YtedapgeabpadaaaDoorQkL2
set_option linter.unusedVariables false
namespace Go.Proofs.YtedapgeabpadaaaDoor
open Go.RowKit Pl

theorem info_sub1 : (Tryd.prog.info? 84).map (fun i => (i.zero, i.size, i.bytes)) = some (some (.agg #[.string ⟨#[]⟩, .int .i64 0, .bool false, .bool false, .int .i64 0]), 5, 40) := by kernel_rfl
theorem info_sub2 : (Tryd.prog.info? 83).map (fun i => (i.zero, i.size, i.bytes)) = some (some (.agg #[.string ⟨#[]⟩, .int .i64 0, .bool false, .bool false, .int .i64 0]), 5, 40) := by kernel_rfl
theorem info_subsL : (Tryd.prog.info? 43).map (fun i => i.size) = some 1 := by kernel_rfl
theorem info_subs2 : (Tryd.prog.info? 50).map (fun i => i.size) = some 1 := by kernel_rfl
theorem lsub_size : (Tryd.prog.info? 87).map (·.size) = some 5 := by kernel_rfl
set_option maxRecDepth 100000 in
set_option maxHeartbeats 4000000 in
theorem pk_8 {x0 x6 x7 x8 x9 x10 x11 x12 x13 x14 x15 x16 x17 x18 x19 x20 x21 x22 x23 x24 x25 x26 x27 x28 x29 x30 x31 x32 x33 x34 x35 x36 x37 x38 x39 x40 x41 x42 x43 x44 x45 x46 x47 x48 x49 x50 x51 x52 x53 x54 x55 x56 x57 x58 x59 x60 x61 x62 x63 x64 x65 x66 x67 x68 x69 x70 x71 x72 x73 x74 x75 x76 x77 x78 x79 x80 x81 x82 x83 x84 x85 x86 x87 x88 x89 x90 x91 x92 x93 x94 x95 x96 x97 x98 x99 x100 x101 x102 x103 x104 x105 x106 x107 x108 x109 x110 x111 x112 x113 x114 x115 x116 x117 x118 x119 x120 x121 x122 x123 x124 x125 x126 x127 x128 x129 x130 x131 x132 x133 x134 x135 x136 x137 x138 x139 x140 x141 x142 x143 x144 x145 x146 x147 x148 x149 x150 x151 x152 x153 x154 x155 x156 x157 x158 x159 x160 x161 x162 x163 x164 x165 x166 x167 x168 x169 x170 x171 x172 x173 x174 x175 x176 x177 x178 x179 x180 x181 x182 x183 x184 x185 x186 x187 x188 x189 x190 x191 x192 x193 x194 x195 x196 x197 x198 x199 x200 x201 x202 x203 x204 x205 x206 x207 : Value} {w : World} {p : Pk} {m m1 m2 : Hs} {ga gb : Nat} {X : World} (hP : PkIn .u8 w p m) (h : Ld w p m ga gb X { cutP p with subs := [], filters := [] } m1 m2) :
    (pkc 8).wp Tryd.prog (bodyPost Tryd.prog Tryd.f14 (PkPost w p)) { tmps := #[x0, .pointer (some ⟨w.heap.size, 0, none⟩), .pointer (some ⟨w.heap.size + 1, 0, none⟩), .pointer (some ⟨w.heap.size + 1 + 1, 0, none⟩), .pointer (some ⟨ga, 0, none⟩), .pointer (some ⟨gb, 0, none⟩), x6, x7, x8, x9, x10, x11, x12, x13, x14, x15, x16, x17, x18, x19, x20, x21, x22, x23, x24, x25, x26, x27, x28, x29, x30, x31, x32, x33, x34, x35, x36, x37, x38, x39, x40, x41, x42, x43, x44, x45, x46, x47, x48, x49, x50, x51, x52, x53, x54, x55, x56, x57, x58, x59, x60, x61, x62, x63, x64, x65, x66, x67, x68, x69, x70, x71, x72, x73, x74, x75, x76, x77, x78, x79, x80, x81, x82, x83, x84, x85, x86, x87, x88, x89, x90, x91, x92, x93, x94, x95, x96, x97, x98, x99, x100, x101, x102, x103, x104, x105, x106, x107, x108, x109, x110, x111, x112, x113, x114, x115, x116, x117, x118, x119, x120, x121, x122, x123, x124, x125, x126, x127, x128, x129, x130, x131, x132, x133, x134, x135, x136, x137, x138, x139, x140, x141, x142, x143, x144, x145, x146, x147, x148, x149, x150, x151, x152, x153, x154, x155, x156, x157, x158, x159, x160, x161, x162, x163, x164, x165, x166, x167, x168, x169, x170, x171, x172, x173, x174, x175, x176, x177, x178, x179, x180, x181, x182, x183, x184, x185, x186, x187, x188, x189, x190, x191, x192, x193, x194, x195, x196, x197, x198, x199, x200, x201, x202, x203, x204, x205, x206, x207], defers := [] } X := by
  obtain ⟨⟨Af, nf, kf⟩, hmf⟩ : ∃ d : Hd, m.s = d := ⟨_, rfl⟩
  have k25 : X.cell? ⟨w.heap.size, 24, none⟩ = some (.slice Af nf kf) := by
    have : X.cell? ⟨w.heap.size, 24, none⟩ = some (.slice m.s.A m.s.n m.s.cap) := h.x.cell 24
    rw [hmf] at this; exact this
  obtain ⟨M, hM⟩ : ∃ M, min nf 80 = M := ⟨_, rfl⟩
  have hn : p.subs.length = nf := by rw [hP.sn, hmf]
  have hcap : nf ≤ kf := by have := hP.sc; rw [hmf] at this; exact this
  have hMI : min (nf : Int) 80 = (M : Int) := by omega
  have hMK : (M : Int) ≤ (kf : Int) := by omega
  have hAf : (if kf = 0 then Af else Af.map (·.add 0)) = Af := by split <;> cases Af <;> simp [Addr.add]
  have HP := Lib.hid hP
  have HF := Lib.hid hmf
  have HN := Lib.hid hn
  have HM := Lib.hid hM
  have H := Lib.hid h
  have hM80 : M ≤ 80 := by omega
  have hMl : M ≤ p.subs.length := by omega
  have hend : p.subs.take M = p.subs.take 80 := by
    rw [← hM, ← hn]
    by_cases hl : p.subs.length ≤ 80
    · rw [Nat.min_eq_left hl, List.take_length, List.take_of_length_le hl]
    · rw [Nat.min_eq_right (by omega)]
  have HE := Lib.hid hend
  clear hP hmf hn hM h hcap hend
  conv => arg 2; whnf
  refine wp_seq_k ?_
  intro K hK
  have HK := Lib.hid hK
  clear hK
  go_wp2_with fail
  go_loopw [164] (fun i wr => ∃ (k : Nat) (n1 n2 : Hs), i = .int .i64 k ∧ k ≤ M ∧ Hid (Ld w p m ga gb wr { cutP p with subs := (p.subs.take k), filters := [] } n1 n2)) (fun i _ => M - (intOf i).toNat)
  case atStart => exact ⟨0, m1, m2, rfl, Nat.zero_le _, Lib.hid H.out⟩
  case round =>
    obtain ⟨k, n1, n2, rfl, hk, hL⟩ := hrel
    by_cases hlt : k < M
    · have hkM : (k : Int) < (M : Int) := by omega
      obtain ⟨x, hx⟩ : ∃ x, p.subs[k]? = some x := ⟨_, List.getElem?_eq_getElem (by omega)⟩
      obtain ⟨b, o, e0, hl, hcl⟩ := HP.out.sr.below hL.out.below (by rw [HN.out]; have := HM.out; omega)
      rw [HF.out] at e0
      simp only at e0
      obtain ⟨c0, c1, c2, c3, c4⟩ := hcl k x hx
      have hx := Lib.hid hx
      clear hcl hl
      go_wp2_with fail
      have hwe : ∃ Y, wr.alloc (.cells (sbA x) 87) = Y := ⟨_, rfl⟩
      obtain ⟨Y, hY⟩ := hwe
      have hB9 : Blk Y wr.heap.size (sbA x) 87 := by rw [← hY]; exact Blk.new _ _ _
      have mY : Mod (fun _ => False) wr Y := by rw [← hY]; exact (Mod.refl _ _).alloc _
      have hLY : Hid (Ld w p m ga gb Y { cutP p with subs := (p.subs.take k), filters := [] } n1 n2) := Lib.hid ⟨hL.out.two.below (Mod.below mY (Nat.le_refl _) (fun k h => h.elim)), hL.out.x.mod mY (fun h => h), hL.out.r1.mod mY (fun h => h), hL.out.r2.mod mY (fun h => h), hL.out.below.trans (mY.below hL.out.below.size (fun k h => h.elim)), hL.out.g1, hL.out.g2⟩
      have g9 : ga < wr.heap.size ∧ gb < wr.heap.size := ⟨hL.out.two.a.lt, hL.out.two.b.lt⟩
      have r9 : (∀ g, n1.s.v.ownBlock = some g → g < wr.heap.size) ∧ (∀ g, n2.s.v.ownBlock = some g → g < wr.heap.size) := ⟨fun g h => (hL.out.two.s1.lt g h).2, fun g h => (hL.out.two.s2.lt g h).2⟩
      change Code.wp _ _ _ _ (wr.alloc (.cells (sbA x) 87))
      rw [hY]
      clear hY mY hL c0 c1 c2 c3 c4
      have hL := hLY
      refine wp_region_held (S := fun w' => Blk w' wr.heap.size (sbA x) 87) (by kernel_rfl) ?_
      change wpAnyH _ _ _ _ _ _ _ _ Y.drew
      refine wpAnyH_takeD (i := 0) (d := 168) (v := .pointer (some ⟨ga, 24, none⟩)) rfl rfl (by kernel_rfl) (by kernel_rfl) (by kernel_rfl) (fun _ _ _ h => h) (y_field _ rfl rfl rfl (fun w => by go_simp)) hB9.drew ?_
      simp only [Act.put, List.setIfInBounds_toArray, List.set_cons_succ, List.set_cons_zero]
      refine wpAnyH_takeD (i := 2) (d := 170) (v := .agg (sbA x)) rfl rfl (by kernel_rfl) (by kernel_rfl) (by kernel_rfl) (fun _ _ _ h => h) (y_load _ rfl rfl rfl (fun w hw => run_loadAt_row w wr.heap.size _ _ _ _ _ hw Tryd.underlying87 rfl lsub_size)) hB9.drew ?_
      simp only [Act.put, List.setIfInBounds_toArray, List.set_cons_succ, List.set_cons_zero]
      refine wpAnyH_takeD (i := 5) (d := 173) (v := .pointer (some ⟨gb, 24, none⟩)) rfl rfl (by kernel_rfl) (by kernel_rfl) (by kernel_rfl) (fun _ _ _ h => h) (y_field _ rfl rfl rfl (fun w => by go_simp)) hB9.drew ?_
      simp only [Act.put, List.setIfInBounds_toArray, List.set_cons_succ, List.set_cons_zero]
      refine wpAnyH_takeD (i := 7) (d := 175) (v := .agg (sbA x)) rfl rfl (by kernel_rfl) (by kernel_rfl) (by kernel_rfl) (fun _ _ _ h => h) (y_load _ rfl rfl rfl (fun w hw => run_loadAt_row w wr.heap.size _ _ _ _ _ hw Tryd.underlying87 rfl lsub_size)) hB9.drew ?_
      simp only [Act.put, List.setIfInBounds_toArray, List.set_cons_succ, List.set_cons_zero]
      generalize hA0 : ({ tmps := _, defers := _ } : Act) = a0
      change wpAnyH _ _ _ _ _ 10 (lst 14 [0, 2, 5, 7]) _ _
      have hsz : a0.tmps.size = 208 := by rw [← hA0]; simp
      have e168 : a0.eval (.tmp 168) = .pointer (some ⟨ga, 24, none⟩) := by rw [← hA0]; rfl
      have e170 : a0.eval (.tmp 170) = .agg (sbA x) := by rw [← hA0]; rfl
      have e173 : a0.eval (.tmp 173) = .pointer (some ⟨gb, 24, none⟩) := by rw [← hA0]; rfl
      have e175 : a0.eval (.tmp 175) = .agg (sbA x) := by rw [← hA0]; rfl
      have e4 : a0.eval (.tmp 4) = .pointer (some ⟨ga, 0, none⟩) := by rw [← hA0]; rfl
      have e5 : a0.eval (.tmp 5) = .pointer (some ⟨gb, 0, none⟩) := by rw [← hA0]; rfl
      obtain ⟨si0, hsi0, hz00, hz10, hz20⟩ := info_parts info_sub1
      obtain ⟨si1, hsi1, hz01, hz11, hz21⟩ := info_parts info_sub2
      obtain ⟨li0, hli0, hl10⟩ := map_some info_subsL
      obtain ⟨li1, hli1, hl11⟩ := map_some info_subs2
      obtain ⟨Lk, hLk⟩ : ∃ L, p.subs.take k = L := ⟨_, rfl⟩
      have hll : Lk.length ≤ 80 := by rw [← hLk, List.length_take]; omega
      have two := hL.out.two
      rw [hLk] at two
      refine appends2 (cA := ⟨ga, 24, 45, pkA .u8 { cutP p with subs := Lk, filters := [] } n1, 84, 5, w.heap.size, n1.s.v, Lk.length, sflat Lk, (sbA x), 169, 171, 172, 178⟩) (cB := ⟨gb, 24, 52, pkA .i64 { cutP p with subs := Lk, filters := [] } n2, 83, 5, w.heap.size, n2.s.v, Lk.length, sflat Lk, (sbA x), 174, 176, 177, 179⟩) (D := [169, 171, 172, 178, 174, 176, 177, 179]) (n := 10) (i0 := 1) (i1 := 3) (i2 := 4) (i3 := 10) (i4 := 11) (j0 := 6) (j1 := 8) (j2 := 9) (j3 := 12) (j4 := 13) ?_ ?_ (by kernel_rfl) (by decide) (by simp) (by kernel_rfl) (by dsimp only; decide) (own_apart two.s1 two.s2 (by decide)) ?_ ?_ (fun w' hm => hB9.drew.mod hm (by rintro ((e | e) | (e | e)) <;> first | (have := r9.1 _ e; omega) | (have := r9.2 _ e; omega) | (dsimp only at e; omega))) hL.out.below.size hL.out.below.size two.a.drew two.s1 two.b.drew two.s2 ?_
      · exact ⟨by rw [hsz]; dsimp only; decide, by rw [hsz]; dsimp only; decide, by rw [hsz]; dsimp only; decide, by rw [hsz]; dsimp only; decide, by dsimp only; decide, by dsimp only; decide, by dsimp only; decide, by dsimp only; decide, by dsimp only; decide, mk_load _ rfl rfl rfl rfl (by decide) e168 Tryd.underlying43, mk_make _ rfl rfl rfl rfl (by decide) e170 Tryd.underlying43 hsi0 hz00 hz10 (by decide) (by decide) (fill_five rfl), ⟨_, _, _, _, _, rfl, rfl, rfl, rfl, Tryd.underlying43, hsi0, hz00, hz10, hz20, rfl, by simp only; omega⟩, mk_fa _ rfl rfl rfl rfl (by decide) e4 (fun w => by go_simp), mk_put _ rfl rfl rfl rfl hli0 hl10, by dsimp only; decide, by dsimp only; decide, rfl, by simp [Value.oneCell', sbA], by simp only; unfold maxLen; omega, rfl⟩
      · exact ⟨by rw [hsz]; dsimp only; decide, by rw [hsz]; dsimp only; decide, by rw [hsz]; dsimp only; decide, by rw [hsz]; dsimp only; decide, by dsimp only; decide, by dsimp only; decide, by dsimp only; decide, by dsimp only; decide, by dsimp only; decide, mk_load _ rfl rfl rfl rfl (by decide) e173 Tryd.underlying50, mk_make _ rfl rfl rfl rfl (by decide) e175 Tryd.underlying50 hsi1 hz01 hz11 (by decide) (by decide) (fill_five rfl), ⟨_, _, _, _, _, rfl, rfl, rfl, rfl, Tryd.underlying50, hsi1, hz01, hz11, hz21, rfl, by simp only; omega⟩, mk_fa _ rfl rfl rfl rfl (by decide) e5 (fun w => by go_simp), mk_put _ rfl rfl rfl rfl hli1 hl11, by dsimp only; decide, by dsimp only; decide, rfl, by simp [Value.oneCell', sbA], by simp only; unfold maxLen; omega, rfl⟩
      · exact x_side two.a two.b (by decide) two.s1 two.s2 (by decide) (by decide) (own_apart two.s1 two.s2 (by decide))
      · exact x_side two.b two.a (by decide) two.s2 two.s1 (by decide) (by decide) (fun g h1 h2 => (own_apart two.s1 two.s2 (by decide)) g h2 h1)
      intro a w' vA vB hag hm hA hnA hB hnB hab
      have mX : Mod (fun g => (g = ga ∨ n1.s.v.ownBlock = some g) ∨ (g = gb ∨ n2.s.v.ownBlock = some g)) Y w' := (Mod.drew (Mod.refl _ Y)).trans hm
      have two' := two_subs (c := x) two mX hA hnA.2.1 hB hnB.2.1
      have gx : w.heap.size ≠ ga ∧ w.heap.size + 1 ≠ ga ∧ w.heap.size + 1 + 1 ≠ ga ∧ w.heap.size ≠ gb ∧ w.heap.size + 1 ≠ gb ∧ w.heap.size + 1 + 1 ≠ gb := by have := hL.out.g1; have := hL.out.g2; omega
      have ld : Hid (Ld w p m ga gb w' { cutP p with subs := (p.subs.take (k + 1)), filters := [] } { n1 with s := hdOf vA } { n2 with s := hdOf vB }) := by
        refine Lib.hid ⟨?_, blk_kept mX hL.out.x gx.1 gx.2.2.2.1 two.s1 two.s2 (by decide) (by decide), blk_kept mX hL.out.r1 gx.2.1 gx.2.2.2.2.1 two.s1 two.s2 (by decide) (by decide), blk_kept mX hL.out.r2 gx.2.2.1 gx.2.2.2.2.2 two.s1 two.s2 (by decide) (by decide), hL.out.below.trans (mX.below hL.out.below.size ?_), hL.out.g1, hL.out.g2⟩
        · have e : p.subs.take (k + 1) = Lk ++ [x] := by rw [List.take_add_one, hLk, hx.out]; rfl
          rw [e]; exact two'
        · rintro g ((rfl | hg) | (rfl | hg))
          · have := hL.out.g1; omega
          · exact (two.s1.lt g hg).1
          · have := hL.out.g1; have := hL.out.g2; omega
          · exact (two.s2.lt g hg).1
      obtain ⟨f, hf⟩ : ∃ f : Nat → Value, a = putAll f [169, 171, 172, 178, 174, 176, 177, 179] a0 := ⟨_, hag.form⟩
      rw [hf, ← hA0]
      simp only [putAll, Act.put, List.setIfInBounds_toArray, List.set_cons_succ, List.set_cons_zero]
      clear hf hag hA hnA hB hnB hab hm two' mX two hA0 e168 e170 e173 e175 e4 e5 hsz gx
      go_wp2_with fail
      go_roundw
      case rel => exact ⟨k + 1, by go_num, by omega, _, _, ld⟩
      case measure => simp [intOf]; omega
    · obtain rfl : k = M := by omega
      go_wp2_with fail
      have hL2 := hL.out
      rw [HE.out] at hL2
      exact HK.out _ _ (pk_9 HP.out hL2)
end Go.Proofs.YtedapgeabpadaaaDoor
