/- The walk of the laws' packets, from its end. -/
import Derived.Test.YtedapgeabpadaaaDoorH6P18
import Derived.Test.YtedapgeabpadaaaDoorH6P9
import Derived.Test.YtedapgeabpadaaaDoorQropW5
import Derived.Laws.CopyOwn
set_option linter.unusedVariables false
namespace Go.Proofs.YtedapgeabpadaaaDoor
open Go.RowKit Pl

/-- The slices of an argument that a machine holds. -/
structure PkCap (m : Hs) : Prop where
  c : m.c.cap ≤ maxLen
  cA : (m.c.A = none ∧ m.c.cap = 0) ∨ ∃ a, m.c.A = some a
  p : m.p.cap ≤ maxLen
  pA : (m.p.A = none ∧ m.p.cap = 0) ∨ ∃ a, m.p.A = some a
  w : m.w.cap ≤ maxLen
  wA : (m.w.A = none ∧ m.w.cap = 0) ∨ ∃ a, m.w.A = some a
  s : m.s.cap ≤ maxLen
  f : m.f.cap ≤ maxLen
theorem ppk_size : (Tryd.prog.info? 45).map (·.size) = some 26 := by kernel_rfl
theorem rpk_size' : (Tryd.prog.info? 52).map (·.size) = some 26 := by kernel_rfl
theorem Blk.row {w : World} {g : Nat} {cs : Array Value} {t : TypeId} (h : Blk w g cs t) (cs' : Array Value) : Blk (w.setRow g cs') g cs' t := setRow_heap w g cs cs' t (0, 0) h
theorem Blk.row_ {w : World} {g g' : Nat} {cs : Array Value} {t : TypeId} (h : Blk w g cs t) (hg : g ≠ g') (cs' : Array Value) : Blk (w.setRow g' cs') g cs t := (setRow_other w g' g cs' hg).trans h
/-- Lists cut at 80. -/
def cutP (p : Pk) : Pk := { p with ps := p.ps.take 80, wps := p.wps.take 80, codes := p.codes.take 80, subs := p.subs.take 80, filters := p.filters.take 80 }
theorem cutP_fits {p : Pk} (h : p.fits) : (cutP p).fits := by
  have t : ∀ {α : Type} {L : List α} {Q : α → Prop}, (L.length ≤ 1048576 ∧ ∀ x ∈ L, Q x) → ((L.take 80).length ≤ 1048576 ∧ ∀ x ∈ L.take 80, Q x) := fun h => ⟨by rw [List.length_take]; omega, fun x hx => h.2 x (List.mem_of_mem_take hx)⟩
  exact { h with ps := t h.ps, wps := t h.wps, codes := t h.codes, subs := t h.subs, filters := t h.filters }
/-- What the walk has in hand. -/
structure Ld (w : World) (p : Pk) (m : Hs) (ga gb : Nat) (X : World) (q : Pk) (m1 m2 : Hs) : Prop where
  two : Two w.heap.size X ga gb q m1 m2
  x : Blk X w.heap.size (pkA .u8 p m) 65
  r1 : Blk X (w.heap.size + 1) #[.int .i64 0, .bool false, .bool false, .int .i64 0, .int .i64 0, .string ⟨#[]⟩, .string ⟨#[]⟩, .int .u8 0, .slice none 0 0, .slice none 0 0, .string ⟨#[]⟩, .bool false, .int .i64 0, .bool false, .string ⟨#[]⟩, .string ⟨#[]⟩, .int .i64 0, .bool false, .slice none 0 0, .bool false, .bool false, .string ⟨#[]⟩, .string ⟨#[]⟩, .bool false, .slice none 0 0, .slice none 0 0] 45
  r2 : Blk X (w.heap.size + 1 + 1) #[.int .i64 0, .bool false, .bool false, .int .i64 0, .int .i64 0, .string ⟨#[]⟩, .string ⟨#[]⟩, .int .i64 0, .slice none 0 0, .slice none 0 0, .string ⟨#[]⟩, .bool false, .int .i64 0, .bool false, .string ⟨#[]⟩, .string ⟨#[]⟩, .int .i64 0, .bool false, .slice none 0 0, .bool false, .bool false, .string ⟨#[]⟩, .string ⟨#[]⟩, .bool false, .slice none 0 0, .slice none 0 0] 52
  below : Below w.heap.size w X
  g1 : w.heap.size + 1 + 1 < ga
  g2 : ga < gb
theorem Two.below {B : Nat} {w w' : World} {ga gb : Nat} {q : Pk} {m1 m2 : Hs} (h : Two B w ga gb q m1 m2) (hb : Below w.heap.size w w') : Two B w' ga gb q m1 m2 := by
  have k : ∀ {e : TypeId} {s n : Nat} {v : Value} {x : List Value}, w.ownsRow B e s v n x → w'.ownsRow B e s v n x := fun o => own_mod o (Mod.of_below (S := fun _ => False) hb) (fun _ _ h => h)
  exact ⟨h.a.of_below hb, h.b.of_below hb, k h.p1, k h.p2, k h.w1, k h.w2, k h.c1, k h.c2, k h.s1, k h.s2, k h.f1, k h.f2, h.ff⟩
/-- What packets answers. -/
def PkPost (w : World) (p : Pk) (e : Ending) (w' : World) : Prop := ∃ m1 m2, e = .returned (.tuple #[pkV .u8 (cutP p) m1, pkV .i64 (cutP p) m2]) ∧ PkIn .u8 w' (cutP p) m1 ∧ PkIn .i64 w' (cutP p) m2 ∧ Below w.heap.size w w'
/-- The code behind its first n parts. -/
def ctl : Nat → Code → Code
  | 0, c => c
  | n + 1, .seq _ d => ctl n d
  | _ + 1, c => c
noncomputable abbrev pkc (n : Nat) : Code := ctl n ((Tryd.f14).body.getD .skip)
theorem results_two_rows {P : Program} {fn : Func} {t1 t2 : Nat} {ty1 ty2 : TypeId} (h : fn.results = #[.cell t1 ty1, .cell t2 ty2]) (tmps : Array Value) (w : World) (g1 g2 : Nat) (s1 s2 : TypeId) (c1 c2 : Array Value) (d1 d2 : TypeDesc)
    (h1 : tmps.getD t1 undef = .pointer (some ⟨g1, 0, none⟩)) (h2 : tmps.getD t2 undef = .pointer (some ⟨g2, 0, none⟩)) (k1 : w.heap[g1]? = some (.cells c1 s1 (0, 0))) (k2 : w.heap[g2]? = some (.cells c2 s2 (0, 0)))
    (u1 : P.underlying ty1 = some d1) (q1 : (match d1 with | .struct _ | .array _ _ => true | _ => false) = true) (i1 : (P.info? ty1).map (·.size) = some c1.size)
    (u2 : P.underlying ty2 = some d2) (q2 : (match d2 with | .struct _ | .array _ _ => true | _ => false) = true) (i2 : (P.info? ty2).map (·.size) = some c2.size) :
    (results fn tmps).run P w = .ok (.tuple #[.agg c1, .agg c2]) w := by
  have hp1 : tmps[t1]?.getD undef = .pointer (some ⟨g1, 0, none⟩) := by simpa using h1
  have hp2 : tmps[t2]?.getD undef = .pointer (some ⟨g2, 0, none⟩) := by simpa using h2
  simp [results, h, hp1, hp2, asAddr, run_loadVar_row w g1 s1 ty1 c1 (0, 0) d1 k1 u1 q1 i1, run_loadVar_row w g2 s2 ty2 c2 (0, 0) d2 k2 u2 q2 i2]
theorem one_store {P : Program} {w : World} {ty : TypeId} {g : Nat} {t : TypeId} {old cells : Array Value} (hg : w.heap[g]? = some (.cells old t (0, 0))) (hi : (P.info? ty).map (·.size) = some cells.size) (ho : old.size = cells.size) (h1 : cells.all (·.oneCell') = true) :
    (Instr.storeAt ty (.pointer (some ⟨g, 0, none⟩)) (.agg cells)).run P w = .ok () (w.setRow g cells) := by
  simp [Instr.storeAt, Instr.sureAddr, run_storeVar_row w g t ty old cells hg hi ho h1]
theorem wpOp_store {P : Program} {ops : Array Oper} {Q : Exit → Act → World → Prop} {i : Nat} {o : Oper} {a : Act} {w : World} {K : Act → World → Prop} {ty : TypeId} {x y : Operand} (ho : ops[i]? = some o) (hgd : o.guard = none) (hd : o.dst = none) (hop : o.op = .store ty x y)
    {g : Nat} {cells : Array Value} (hx : a.eval x = .pointer (some ⟨g, 0, none⟩)) (hy : a.eval y = .agg cells) {t : TypeId} {old : Array Value} (hg : w.heap[g]? = some (.cells old t (0, 0))) (hi : (P.info? ty).map (·.size) = some cells.size) (hold : old.size = cells.size) (h1 : cells.all (·.oneCell') = true)
    (h : K a (w.setRow g cells)) : wpOp P ops Q i K a w :=
  wpOp_of_wp ho hgd (wp_store_row ty x y hop g cells hx hy t old hg hi hold h1 (by rw [hd]; exact h))
theorem pkA_oneP (k : IntKind) (q : Pk) (m : Hs) : (pkA k q m).all (·.oneCell') = true := by simp [pkA, Value.oneCell']
theorem Mod.row {S : Nat → Prop} {a b : World} (h : Mod S a b) {g : Nat} (hg : S g) (cs : Array Value) (hlt : g < b.heap.size) : Mod S a (b.setRow g cs) := by
  refine h.trans ⟨rfl, rfl, rfl, ?_, fun i hi hn => setRow_other b g i cs (fun e => hn (e ▸ hg))⟩
  simp [World.setRow]
set_option maxRecDepth 100000 in
set_option maxHeartbeats 4000000 in
theorem pk_10 {x0 x6 x7 x8 x9 x10 x11 x12 x13 x14 x15 x16 x17 x18 x19 x20 x21 x22 x23 x24 x25 x26 x27 x28 x29 x30 x31 x32 x33 x34 x35 x36 x37 x38 x39 x40 x41 x42 x43 x44 x45 x46 x47 x48 x49 x50 x51 x52 x53 x54 x55 x56 x57 x58 x59 x60 x61 x62 x63 x64 x65 x66 x67 x68 x69 x70 x71 x72 x73 x74 x75 x76 x77 x78 x79 x80 x81 x82 x83 x84 x85 x86 x87 x88 x89 x90 x91 x92 x93 x94 x95 x96 x97 x98 x99 x100 x101 x102 x103 x104 x105 x106 x107 x108 x109 x110 x111 x112 x113 x114 x115 x116 x117 x118 x119 x120 x121 x122 x123 x124 x125 x126 x127 x128 x129 x130 x131 x132 x133 x134 x135 x136 x137 x138 x139 x140 x141 x142 x143 x144 x145 x146 x147 x148 x149 x150 x151 x152 x153 x154 x155 x156 x157 x158 x159 x160 x161 x162 x163 x164 x165 x166 x167 x168 x169 x170 x171 x172 x173 x174 x175 x176 x177 x178 x179 x180 x181 x182 x183 x184 x185 x186 x187 x188 x189 x190 x191 x192 x193 x194 x195 x196 x197 x198 x199 x200 x201 x202 x203 x204 x205 x206 x207 : Value} {w : World} {p : Pk} {m m1 m2 : Hs} {ga gb : Nat} {X : World} (hf : p.fits) (h : Ld w p m ga gb X (cutP p) m1 m2) :
    (pkc 10).wp Tryd.prog (bodyPost Tryd.prog Tryd.f14 (PkPost w p)) { tmps := #[x0, .pointer (some ⟨w.heap.size, 0, none⟩), .pointer (some ⟨w.heap.size + 1, 0, none⟩), .pointer (some ⟨w.heap.size + 1 + 1, 0, none⟩), .pointer (some ⟨ga, 0, none⟩), .pointer (some ⟨gb, 0, none⟩), x6, x7, x8, x9, x10, x11, x12, x13, x14, x15, x16, x17, x18, x19, x20, x21, x22, x23, x24, x25, x26, x27, x28, x29, x30, x31, x32, x33, x34, x35, x36, x37, x38, x39, x40, x41, x42, x43, x44, x45, x46, x47, x48, x49, x50, x51, x52, x53, x54, x55, x56, x57, x58, x59, x60, x61, x62, x63, x64, x65, x66, x67, x68, x69, x70, x71, x72, x73, x74, x75, x76, x77, x78, x79, x80, x81, x82, x83, x84, x85, x86, x87, x88, x89, x90, x91, x92, x93, x94, x95, x96, x97, x98, x99, x100, x101, x102, x103, x104, x105, x106, x107, x108, x109, x110, x111, x112, x113, x114, x115, x116, x117, x118, x119, x120, x121, x122, x123, x124, x125, x126, x127, x128, x129, x130, x131, x132, x133, x134, x135, x136, x137, x138, x139, x140, x141, x142, x143, x144, x145, x146, x147, x148, x149, x150, x151, x152, x153, x154, x155, x156, x157, x158, x159, x160, x161, x162, x163, x164, x165, x166, x167, x168, x169, x170, x171, x172, x173, x174, x175, x176, x177, x178, x179, x180, x181, x182, x183, x184, x185, x186, x187, x188, x189, x190, x191, x192, x193, x194, x195, x196, x197, x198, x199, x200, x201, x202, x203, x204, x205, x206, x207], defers := [] } X := by
  conv => arg 2; whnf
  have pZ : ∀ w', (Mod (fun g => g = w.heap.size + 1 ∨ g = w.heap.size + 1 + 1) X.drew w') → Blk w' ga (pkA .u8 (cutP p) m1) 45 ∧ Blk w' gb (pkA .i64 (cutP p) m2) 52 := fun w' hm =>
    ⟨h.two.a.drew.mod hm (fun e => by have := h.g1; omega), h.two.b.drew.mod hm (fun e => by have := h.g1; have := h.g2; omega)⟩
  have hlt := h.r2.lt
  refine wp_seq_k ?_
  intro K hK
  refine wp_region_held (S := fun w' => Blk w' ga (pkA .u8 (cutP p) m1) 45 ∧ Blk w' gb (pkA .i64 (cutP p) m2) 52) (by kernel_rfl) ?_
  change wpAnyH _ _ _ _ _ _ _ _ X.drew
  refine wpAnyH_take (i := 0) (v := .agg (pkA .u8 (cutP p) m1)) rfl (by kernel_rfl) (by kernel_rfl) (by kernel_rfl) ?_ (y_load _ rfl rfl rfl (fun w' hw => run_loadAt_row w' ga _ _ _ _ _ hw.1 Tryd.underlying45 rfl ppk_size)) (pZ _ (Mod.refl _ _)) ?_
  · exact fun _ _ _ h => h
  refine wpAnyH_take (i := 1) (v := .agg (pkA .i64 (cutP p) m2)) rfl (by kernel_rfl) (by kernel_rfl) (by kernel_rfl) ?_ (y_load _ rfl rfl rfl (fun w' hw => run_loadAt_row w' gb _ _ _ _ _ hw.2 Tryd.underlying52 rfl rpk_size')) (pZ _ (Mod.refl _ _)) ?_
  · exact fun _ _ _ h => h
  generalize hA0 : Act.put (Act.put _ _ _) _ _ = a0
  have e1 : a0.eval (.tmp 2) = .pointer (some ⟨w.heap.size + 1, 0, none⟩) := by rw [← hA0]; rfl
  have e2 : a0.eval (.tmp 3) = .pointer (some ⟨w.heap.size + 1 + 1, 0, none⟩) := by rw [← hA0]; rfl
  have e3 : a0.eval (.tmp 206) = .agg (pkA .u8 (cutP p) m1) := by rw [← hA0]; rfl
  have e4 : a0.eval (.tmp 207) = .agg (pkA .i64 (cutP p) m2) := by rw [← hA0]; rfl
  change wpAnyH _ _ _ _ _ 2 (chL 4 [0, 1] [2] [3] 0 0) _ _
  refine two_chains (pre := [0, 1]) (A := [2]) (B := [3]) (by kernel_rfl) (fun i j a w' => a = a0 ∧ Mod (fun g => g = w.heap.size + 1 ∨ g = w.heap.size + 1 + 1) X.drew w' ∧ Blk w' (w.heap.size + 1) (if i = 0 then #[.int .i64 0, .bool false, .bool false, .int .i64 0, .int .i64 0, .string ⟨#[]⟩, .string ⟨#[]⟩, .int .u8 0, .slice none 0 0, .slice none 0 0, .string ⟨#[]⟩, .bool false, .int .i64 0, .bool false, .string ⟨#[]⟩, .string ⟨#[]⟩, .int .i64 0, .bool false, .slice none 0 0, .bool false, .bool false, .string ⟨#[]⟩, .string ⟨#[]⟩, .bool false, .slice none 0 0, .slice none 0 0] else pkA .u8 (cutP p) m1) 45 ∧ Blk w' (w.heap.size + 1 + 1) (if j = 0 then #[.int .i64 0, .bool false, .bool false, .int .i64 0, .int .i64 0, .string ⟨#[]⟩, .string ⟨#[]⟩, .int .i64 0, .slice none 0 0, .slice none 0 0, .string ⟨#[]⟩, .bool false, .int .i64 0, .bool false, .string ⟨#[]⟩, .string ⟨#[]⟩, .int .i64 0, .bool false, .slice none 0 0, .bool false, .bool false, .string ⟨#[]⟩, .string ⟨#[]⟩, .bool false, .slice none 0 0, .slice none 0 0] else pkA .i64 (cutP p) m2) 52) ?_ ?_ ?_ 2 0 0 _ _ (by decide) (by decide) rfl ⟨rfl, Mod.refl _ _, h.r1.drew, h.r2.drew⟩
  · rintro i j a w' hi ⟨rfl, hm, b1, b2⟩
    obtain rfl : i = 0 := by simpa using hi
    refine wpOp_store rfl rfl rfl rfl e1 e3 b1 ppk_size rfl (pkA_oneP _ _ _) ?_
    have hm' := hm.row (.inl rfl) (pkA .u8 (cutP p) m1) b1.lt
    exact ⟨pZ _ hm', rfl, hm', b1.row _, b2.row_ (by omega) _⟩
  · rintro i j a w' hi ⟨rfl, hm, b1, b2⟩
    obtain rfl : j = 0 := by simpa using hi
    refine wpOp_store rfl rfl rfl rfl e2 e4 b2 rpk_size' rfl (pkA_oneP _ _ _) ?_
    have hm' := hm.row (.inr rfl) (pkA .i64 (cutP p) m2) b2.lt
    exact ⟨pZ _ hm', rfl, hm', b1.row_ (by omega) _, b2.row _⟩
  · rintro a w' ⟨rfl, hm, b1, b2⟩
    refine hK _ _ ?_
    apply wp_ret
    have z1 : a.tmps.getD 2 undef = .pointer (some ⟨w.heap.size + 1, 0, none⟩) := e1
    have z2 : a.tmps.getD 3 undef = .pointer (some ⟨w.heap.size + 1 + 1, 0, none⟩) := e2
    refine bodyPost_ret (results_two_rows rfl _ _ _ _ _ _ _ _ _ _ z1 z2 b1 b2 Tryd.underlying45 rfl ppk_size Tryd.underlying52 rfl rpk_size') (by rw [← hA0]; rfl) ?_
    have mX : Mod (fun g => g = w.heap.size + 1 ∨ g = w.heap.size + 1 + 1) X w' := (Mod.drew (Mod.refl _ X)).trans hm
    have hbX : Below w.heap.size w w' := h.below.trans (mX.below h.below.size (fun k hk => by omega))
    have k : ∀ {e : TypeId} {s n : Nat} {v : Value} {x : List Value}, X.ownsRow w.heap.size e s v n x → 45 ≠ e → 52 ≠ e → w'.ownsRow w.heap.size e s v n x := fun o a1 a2 =>
      own_mod o mX (fun g hg hx => by rcases hx with e | e; exact own_ne o h.r1 a1 (e ▸ hg); exact own_ne o h.r2 a2 (e ▸ hg))
    have t : Two w.heap.size w' ga gb (cutP p) m1 m2 := ⟨(pZ _ hm).1, (pZ _ hm).2, k h.two.p1 (by decide) (by decide), k h.two.p2 (by decide) (by decide), k h.two.w1 (by decide) (by decide), k h.two.w2 (by decide) (by decide), k h.two.c1 (by decide) (by decide), k h.two.c2 (by decide) (by decide), k h.two.s1 (by decide) (by decide), k h.two.s2 (by decide) (by decide), k h.two.f1 (by decide) (by decide), k h.two.f2 (by decide) (by decide), h.two.ff⟩
    exact ⟨m1, m2, rfl, t.in1 (cutP_fits hf), t.in2 (cutP_fits hf), hbX⟩
end Go.Proofs.YtedapgeabpadaaaDoor
