/- OutflowOnce's look: the walk of the closure. -/
import Derived.Test.YtnclobnnnihpfaaOnceA
import Derived.Test.YtnclobnnnihpfaaWinL
namespace Go.Proofs.Ytnclobnnnihpfaa
set_option linter.unusedVariables false
open Go.RowKit Go.Maps

/-- The flow and what is remembered, in memory; the boxes of the captured variables. -/
structure OnceW (B fp pb mb sb rb fa sa ra : Nat) (s : FS) (sent : ByteArray → Option Int) (ns : Nat) (rel : ByteArray → Bool) (nr : Nat) (w : World) : Prop where
  flow : FlowAt B fp pb mb s w
  snt : SentAt sb sent ns w
  rls : RelAt rb rel nr w
  f : Blk w fa #[.pointer (some ⟨fp, 0, none⟩)] 23
  s : Blk w sa #[.map (some sb)] 25
  r : Blk w ra #[.map (some rb)] 26
  n1 : sb ≠ mb
  n2 : rb ≠ mb
  n3 : sb ≠ rb
section
variable {B fp pb mb sb rb fa sa ra ns nr : Nat} {s : FS} {sent : ByteArray → Option Int} {rel : ByteArray → Bool} {w w' : World}
theorem OnceW.below (h : OnceW B fp pb mb sb rb fa sa ra s sent ns rel nr w) (b : Below w.heap.size w w') : OnceW B fp pb mb sb rb fa sa ra s sent ns rel nr w' :=
  ⟨h.flow.below b, h.snt.below b, h.rls.below b, h.f.of_below b, h.s.of_below b, h.r.of_below b, h.n1, h.n2, h.n3⟩
theorem OnceW.turn {s' : FS} (h : OnceW B fp pb mb sb rb fa sa ra s sent ns rel nr w) (hf : FlowAt B fp pb mb s' w') (m : Fr B (flowS mb) w w') : OnceW B fp pb mb sb rb fa sa ra s' sent ns rel nr w' :=
  ⟨hf, h.snt.flow m h.n1, h.rls.flow m h.n2, h.f.fr m (flowS_not (by unfold flowT; decide)), h.s.fr m (flowS_not (by unfold flowT; decide)), h.r.fr m (flowS_not (by unfold flowT; decide)), h.n1, h.n2, h.n3⟩
theorem OnceW.sents {f' : ByteArray → Option Int} {n' : Nat} (h : OnceW B fp pb mb sb rb fa sa ra s sent ns rel nr w) (hs : SentAt sb f' n' w') (hg : w.grownBy w' (some sb)) : OnceW B fp pb mb sb rb fa sa ra s f' n' rel nr w' := by
  have ho : MapAt sb w := h.snt.obj
  exact ⟨h.flow.mapT hg ho (fun e => h.n1 e.symm), hs, h.rls.mapT hg (fun e => h.n3 e.symm), h.f.mapT hg ho, h.s.mapT hg ho, h.r.mapT hg ho, h.n1, h.n2, h.n3⟩
theorem OnceW.rels {f' : ByteArray → Bool} {n' : Nat} (h : OnceW B fp pb mb sb rb fa sa ra s sent ns rel nr w) (hs : RelAt rb f' n' w') (hg : w.grownBy w' (some rb)) : OnceW B fp pb mb sb rb fa sa ra s sent ns f' n' w' := by
  have ho : MapAt rb w := h.rls.obj
  exact ⟨h.flow.mapT hg ho (fun e => h.n2 e.symm), h.snt.mapT hg h.n3, hs, h.f.mapT hg ho, h.s.mapT hg ho, h.r.mapT hg ho, h.n1, h.n2, h.n3⟩
theorem OnceW.map (h : OnceW B fp pb mb sb rb fa sa ra s sent ns rel nr w) {ub : Nat} (hg : w.grownBy w' (some ub)) (ho : MapAt ub w) (h1 : sb ≠ ub) (h2 : rb ≠ ub) (h3 : mb ≠ ub) : OnceW B fp pb mb sb rb fa sa ra s sent ns rel nr w' :=
  ⟨h.flow.mapT hg ho h3, h.snt.mapT hg h1, h.rls.mapT hg h2, h.f.mapT hg ho, h.s.mapT hg ho, h.r.mapT hg ho, h.n1, h.n2, h.n3⟩
end
theorem op_one {C : Nat} {w : World} {p : OP} {pv : Value} (h : OpAt C w p pv) : (opA p pv).all (·.oneCell') = true := Array.all_eq_true'.2 fun u hu => h.one u (Array.mem_toList_iff.2 hu)
theorem looks_end {rel : ByteArray → Bool} {bg : Bool} {f f' : ByteArray → Option Int} (h : Looks rel bg f [] f') : f = f' := by cases h; rfl
theorem looks_rel {rel : ByteArray → Bool} {bg : Bool} {f f' : ByteArray → Option Int} {id : Int} {r : List OP} (h : Looks rel bg f (.rel id :: r) f') : Looks rel bg f r f' := by cases h; assumption
theorem looks_pub {rel : ByteArray → Bool} {bg : Bool} {f f' : ByteArray → Option Int} {m : OM} {id : Int} {dup : Bool} {r : List OP} (h : Looks rel bg f (.pub m id dup :: r) f') : okPub f rel bg m id dup ∧ Looks rel bg (upd f m.payload id) r f' := by cases h; exact ⟨by assumption, by assumption⟩
theorem flL_at : ∀ {l : List OF} {i : Nat} {x : OF}, l[i]? = some x → ∀ j u, (ofC x)[j]? = some u → (flL l)[i * 7 + j]? = some u := by
  intro l
  induction l with
  | nil => intro i x h; simp at h
  | cons y r ih =>
    intro i x h j u hu
    have hl : (ofC y).length = 7 := rfl
    have hj : j < 7 := (List.getElem?_eq_some_iff.1 hu).1
    show (ofC y ++ flL r)[i * 7 + j]? = some u
    cases i with
    | zero =>
      obtain rfl : y = x := by simpa using h
      rw [Nat.zero_mul, Nat.zero_add, List.getElem?_append_left (by omega)]
      exact hu
    | succ i =>
      rw [List.getElem?_append_right (by omega), hl, show (i + 1) * 7 + j - 7 = i * 7 + j from by omega]
      exact ih (by simpa using h) j u hu
theorem fli_size : (Try.prog.info? 45).map (·.size) = some 7 := by kernel_rfl
theorem ofA_one2 (x : OF) : (ofA x).all (·.oneCell') = true := Array.all_eq_true'.2 fun u hu => ofA_one x u (Array.mem_toList_iff.2 hu)
def zOF : OF := ⟨0, ⟨⟨#[]⟩, ⟨#[]⟩, 0, false, ⟨#[]⟩⟩, false⟩
theorem relF_step {rel : ByteArray → Bool} {l : List OF} {i : Nat} {x : OF} (h : l[i]? = some x) {v : Bool} (hv : v = (relF rel (l.take i) x.m.payload || x.rel)) : relF rel (l.take (i + 1)) = fun q => if q = x.m.payload then v else relF rel (l.take i) q := by
  rw [List.take_add_one, h, show (some x).toList = [x] from rfl, relF_snoc]
  funext q
  by_cases e : q = x.m.payload
  · rw [if_pos e, if_pos e, hv, e]
  · rw [if_neg e, if_neg e]
theorem oids_step {l : List OF} {i : Nat} {x : OF} (h : l[i]? = some x) : oids (l.take (i + 1)) = oids (l.take i) ++ [x.id] := by
  rw [List.take_add_one, h]
  unfold oids
  rw [List.map_append]
  rfl
theorem oids_new {l : List OF} {i : Nat} {x : OF} (h : l[i]? = some x) (hn : (oids l).Nodup) : x.id ∉ oids (l.take i) := by
  intro c
  obtain ⟨y, hy, e⟩ := List.mem_map.1 c
  obtain ⟨j, hj⟩ := List.mem_iff_getElem?.1 hy
  rw [List.getElem?_take] at hj
  split at hj
  · rename_i hlt
    have hil := (List.getElem?_eq_some_iff.1 h).1
    have hjl := (List.getElem?_eq_some_iff.1 hj).1
    unfold oids at hn
    have : j = i := by
      refine (List.getElem_inj (h₀ := by simpa using hjl) (h₁ := by simpa using hil) hn).1 ?_
      rw [List.getElem_map, List.getElem_map, (List.getElem?_eq_some_iff.1 h).2, (List.getElem?_eq_some_iff.1 hj).2]
      exact e
    omega
  · cases hj
theorem FlowAt.mlt {B fp pb mb : Nat} {s : FS} {w : World} (h : FlowAt B fp pb mb s w) : mb < w.heap.size := by
  obtain ⟨vf, vw, h⟩ := h
  exact h.pool.2.2.2.lt
set_option maxRecDepth 100000 in
set_option maxHeartbeats 8000000 in
theorem look_any (B0 B fp pb mb sb rb fa sa ra C ns nr n : Nat) (s : FS) (sent sent' : ByteArray → Option Int) (rel : ByteArray → Bool) (bg : Bool) (v : Value) (L : List OP) (w : World)
    (h : OnceW B fp pb mb sb rb fa sa ra s sent ns rel nr w) (ho : OutAt C w v L) (hl : Looks rel bg sent L sent') (hL : L.length ≤ 400) (hO : Once s sent' rel n) (hns : ns ≤ 1000000) (hnr : nr ≤ 1000000) (b1 : B0 ≤ sb) (b2 : B0 ≤ rb) (b3 : B0 ≤ w.heap.size) :
    Calls Try.prog 9 #[v, .bool bg, .pointer (some ⟨sa, 0, none⟩), .pointer (some ⟨ra, 0, none⟩), .pointer (some ⟨fa, 0, none⟩)] w fun e w' =>
      e = .returned (.bool true) ∧ OnceW B fp pb mb sb rb fa sa ra s sent' (ns + L.length) (relF rel s.fl) (nr + s.fl.length) w' ∧ Below B0 w w' := by
  obtain ⟨A0, cap0, rfl⟩ := ho.form
  have H := Lib.hid h
  have HO := Lib.hid ho
  have HL := Lib.hid hl
  have HN := Lib.hid hO
  clear h ho hl hO
  have hmm := @run_makeMap Try.prog
  go_enter Try.func9, Try.ntmps9
  go_wp2_with fail
  go_loopw [17] (fun jv wr => ∃ (j : Nat) (fj : ByteArray → Option Int), jv = .int .i64 j ∧ j ≤ L.length ∧ Hid (OutAt C wr (.slice A0 L.length cap0) L) ∧ Hid (Looks rel bg fj (L.drop j) sent') ∧ Hid (OnceW B fp pb mb sb rb fa sa ra s fj (ns + j) rel nr wr) ∧ Hid (Below B0 w wr)) (fun jv _ => ((L.length : Int) - intOf jv).toNat)
  case atStart => exact ⟨0, sent, rfl, Nat.zero_le _, HO, HL, H, Lib.hid (Below.refl _ _)⟩
  case round =>
    obtain ⟨j, fj, rfl, hj, hOut, hLk, hW, hB⟩ := hrel
    by_cases hjl : j < L.length
    · obtain ⟨p, hp⟩ : ∃ p, L[j]? = some p := ⟨_, List.getElem?_eq_getElem hjl⟩
      obtain ⟨g, o, cap, pv, ev, -, -, hop, hcl⟩ := hOut.out.at hp
      injection ev with e1 e2 e3
      subst e1
      have hdr : L.drop j = p :: L.drop (j + 1) := by
        rw [List.drop_eq_getElem_cons hjl]
        congr 1
        exact (List.getElem?_eq_some_iff.1 hp).2
      have hlk := hLk.out
      rw [hdr] at hlk
      have hrange : wr.rangeAt g (o + j * 26) (opA p pv).toList := hcl
      obtain ⟨Y, hY⟩ : ∃ Y, wr.alloc (.cells (ansA 0 0 0) 37) = Y := ⟨_, rfl⟩
      have hy : Blk Y wr.heap.size (ansA 0 0 0) 37 := by rw [← hY]; exact Blk.new _ _ _
      have by_ : Below wr.heap.size wr Y := by rw [← hY]; exact (Below.refl _ _).alloc (Nat.le_refl _) _
      obtain ⟨Z, hZ⟩ : ∃ Z, Y.setRow wr.heap.size (opA p pv) = Z := ⟨_, rfl⟩
      have hz : Blk Z wr.heap.size (opA p pv) 37 := by rw [← hZ]; exact hy.setRow
      have bz : Below wr.heap.size wr Z := by rw [← hZ]; exact below_setRow by_ (Nat.le_refl _) _
      have HY := Lib.hid hy
      have HZ := Lib.hid hZ
      have HBZ := Lib.hid hz
      have HRG := Lib.hid hrange
      have HON := Lib.hid (op_one hop)
      have HOS : Hid ((opA p pv).size = 26) := Lib.hid (opA_size p pv)
      have HWZ := Lib.hid (hW.out.below bz)
      have HOZ := Lib.hid (hOut.out.below bz)
      have HB := Lib.hid (hB.out.trans (bz.mono (Nat.le_trans b3 hB.out.size)))
      have jI : (j : Int) < (L.length : Int) := by omega
      have JI : Hid (j < L.length) := Lib.hid hjl
      have zs := HWZ.out.s.cell 0
      have zr := HWZ.out.r.cell 0
      simp only [List.getElem?_toArray, List.getElem?_cons_zero] at zs zr
      unfold ansA at hY
      clear hp hcl hdr hrange hop hy by_ hz bz hLk hW hB hOut e2 e3 hjl hZ
      cases p with
      | rel id =>
        have hlk2 := Lib.hid (looks_rel hlk)
        have x0 : Z.cell? ⟨wr.heap.size, 0, none⟩ = some (.int .i64 6) := HBZ.out.cell 0
        clear hlk
        go_wp2_with (first | (refine wpList_load_at rfl 37 (.tmp 19) rfl g (o + j * 26) rfl (opA (.rel id) pv) _ HRG.out Try.underlying37 rfl (by rw [pk_size, HOS.out]) ?_) | (refine wpList_store_rowZ rfl 37 (.tmp 9) (.tmp 20) rfl rfl wr.heap.size (opA (.rel id) pv) rfl rfl 37 (ansA 0 0 0) HY.out (by rw [pk_size, HOS.out]) rfl HON.out Z HZ.out ?_) | (fail))
        go_roundw
        case rel => exact ⟨j + 1, fj, by go_num, by have := JI.out; omega, HOZ, hlk2, Lib.hid ⟨HWZ.out.flow, HWZ.out.snt.mono (by omega), HWZ.out.rls, HWZ.out.f, HWZ.out.s, HWZ.out.r, HWZ.out.n1, HWZ.out.n2, HWZ.out.n3⟩, HB⟩
        case measure => have := JI.out; simp [intOf]; omega
      | pub m id dup =>
        obtain ⟨hok, hlk2⟩ := looks_pub hlk
        have hlk2 := Lib.hid hlk2
        obtain ⟨ok1, ok2, ok3, ok4⟩ := hok
        have x0 : Z.cell? ⟨wr.heap.size, 0, none⟩ = some (.int .i64 3) := HBZ.out.cell 0
        have x1 : Z.cell? ⟨wr.heap.size, 1, none⟩ = some (.bool dup) := HBZ.out.cell 1
        have x3 : Z.cell? ⟨wr.heap.size, 3, none⟩ = some (.int .i64 m.qos) := HBZ.out.cell 3
        have x4 : Z.cell? ⟨wr.heap.size, 4, none⟩ = some (.int .i64 id) := HBZ.out.cell 4
        have x6 : Z.cell? ⟨wr.heap.size, 6, none⟩ = some (.string m.payload) := HBZ.out.cell 6
        have hpl : m.payload.size ≤ maxLen := by rw [ok4]; unfold maxLen; omega
        have lk1 := HWZ.out.snt.look_ok hpl
        have lk2 := HWZ.out.rls.look hpl
        obtain ⟨wf, hst, hsf, hgf⟩ := HWZ.out.snt.store hpl (v := id) (wf_id ok3.1 ok3.2) (by unfold maxLen; omega)
        have HWF := Lib.hid (HWZ.out.sents hsf hgf)
        have HOF := Lib.hid (HOZ.out.mapT hgf HWZ.out.snt.obj)
        have HBF := Lib.hid (HB.out.grown hgf (Nat.le_trans b3 HB.out.size) (fun k hk => by injection hk with hk; omega))
        have hns2 : ns + j + 1 = ns + (j + 1) := by omega
        clear hlk hsf hgf
        obtain ⟨pl, hplE⟩ : ∃ pl, m.payload = pl := ⟨_, rfl⟩
        obtain ⟨qs, hqs⟩ : ∃ qs, m.qos = qs := ⟨_, rfl⟩
        rw [hplE] at x6 lk1 lk2 hst HWF ok1 ok2 hlk2
        rw [hqs] at x3 ok1 ok2
        obtain ⟨sv, hsv⟩ : ∃ sv, fj pl = sv := ⟨_, rfl⟩
        obtain ⟨rv, hrv⟩ : ∃ rv, rel pl = rv := ⟨_, rfl⟩
        rw [hsv] at lk1 ok1 ok2
        rw [hrv] at lk2 ok1
        by_cases hq : 0 < qs
        · obtain ⟨o1, o2, o3⟩ := ok1 hq
          subst o3
          have hq0 : (qs == 0) = false := beq_eq_false_iff_ne.2 (by omega)
          cases sv with
          | none =>
            obtain rfl : dup = false := by simpa using o1.symm
            simp only [Option.getD_none, Option.isSome_none] at lk1
            clear o1 o2 ok1 ok2 hsv hrv hqs hplE
            go_wp2_with (first | (refine wpList_load_at rfl 37 (.tmp 19) rfl g (o + j * 26) rfl (opA (.pub m id false) pv) _ HRG.out Try.underlying37 rfl (by rw [pk_size, HOS.out]) ?_) | (refine wpList_store_rowZ rfl 37 (.tmp 9) (.tmp 20) rfl rfl wr.heap.size (opA (.pub m id false) pv) rfl rfl 37 (ansA 0 0 0) HY.out (by rw [pk_size, HOS.out]) rfl HON.out Z HZ.out ?_) | (fail))
            go_roundw
            case rel => exact ⟨j + 1, _, by go_num, by have := JI.out; omega, HOF, hlk2, by rw [← hns2]; exact HWF, HBF⟩
            case measure => have := JI.out; simp [intOf]; omega
          | some iv =>
            obtain rfl : dup = true := by simpa using o1.symm
            obtain ⟨e5, rfl⟩ := o2 rfl
            obtain rfl : iv = id := by injection e5
            simp only [Option.getD_some, Option.isSome_some] at lk1
            clear o1 o2 ok1 ok2 hsv hrv hqs hplE e5
            go_wp2_with (first | (refine wpList_load_at rfl 37 (.tmp 19) rfl g (o + j * 26) rfl (opA (.pub m iv true) pv) _ HRG.out Try.underlying37 rfl (by rw [pk_size, HOS.out]) ?_) | (refine wpList_store_rowZ rfl 37 (.tmp 9) (.tmp 20) rfl rfl wr.heap.size (opA (.pub m iv true) pv) rfl rfl 37 (ansA 0 0 0) HY.out (by rw [pk_size, HOS.out]) rfl HON.out Z HZ.out ?_) | (fail))
            go_roundw
            case rel => exact ⟨j + 1, _, by go_num, by have := JI.out; omega, HOF, hlk2, by rw [← hns2]; exact HWF, HBF⟩
            case measure => have := JI.out; simp [intOf]; omega
        · by_cases hq0 : qs = 0
          · obtain ⟨o1, o2, o3⟩ := ok2 hq0
            subst hq0 o1 o2 o3
            simp only [Option.getD_none, Option.isSome_none] at lk1
            clear ok1 ok2 hsv hrv hqs hplE
            go_wp2_with (first | (refine wpList_load_at rfl 37 (.tmp 19) rfl g (o + j * 26) rfl (opA (.pub m 0 false) pv) _ HRG.out Try.underlying37 rfl (by rw [pk_size, HOS.out]) ?_) | (refine wpList_store_rowZ rfl 37 (.tmp 9) (.tmp 20) rfl rfl wr.heap.size (opA (.pub m 0 false) pv) rfl rfl 37 (ansA 0 0 0) HY.out (by rw [pk_size, HOS.out]) rfl HON.out Z HZ.out ?_) | (fail))
            go_roundw
            case rel => exact ⟨j + 1, _, by go_num, by have := JI.out; omega, HOF, hlk2, by rw [← hns2]; exact HWF, HBF⟩
            case measure => have := JI.out; simp [intOf]; omega
          · have hq1 : (qs == 0) = false := beq_eq_false_iff_ne.2 hq0
            clear ok1 ok2 hsv hrv hqs hplE
            go_wp2_with (first | (refine wpList_load_at rfl 37 (.tmp 19) rfl g (o + j * 26) rfl (opA (.pub m id dup) pv) _ HRG.out Try.underlying37 rfl (by rw [pk_size, HOS.out]) ?_) | (refine wpList_store_rowZ rfl 37 (.tmp 9) (.tmp 20) rfl rfl wr.heap.size (opA (.pub m id dup) pv) rfl rfl 37 (ansA 0 0 0) HY.out (by rw [pk_size, HOS.out]) rfl HON.out Z HZ.out ?_) | (fail))
            go_roundw
            case rel => exact ⟨j + 1, _, by go_num, by have := JI.out; omega, HOF, hlk2, by rw [← hns2]; exact HWF, HBF⟩
            case measure => have := JI.out; simp [intOf]; omega
    · obtain rfl : j = L.length := by omega
      have hnn : ¬ ((L.length : Int) < (L.length : Int)) := by omega
      have hE := hLk.out
      rw [List.drop_length] at hE
      have hE := looks_end hE
      subst hE
      obtain ⟨U, hU⟩ : ∃ U, wr.alloc (.map #[] 0) = U := ⟨_, rfl⟩
      have hu0 : Ids wr.heap.size [] U := by rw [← hU]; exact Ids.new wr
      have bu : Below wr.heap.size wr U := by rw [← hU]; exact (Below.refl _ _).alloc (Nat.le_refl _) _
      obtain ⟨ub, hub⟩ : ∃ ub, wr.heap.size = ub := ⟨_, rfl⟩
      have m1 : sb ≠ ub := by have := hW.out.snt.lt; omega
      have m2 : rb ≠ ub := by have := hW.out.rls.lt; omega
      have m3 : mb ≠ ub := by have := hW.out.flow.mlt; omega
      have m4 : B0 ≤ ub := by have := hB.out.size; omega
      have HWU := Lib.hid (hW.out.below bu)
      have HBU := Lib.hid (hB.out.trans (bu.mono (by omega)))
      rw [hub] at hu0
      have HIU := Lib.hid hu0
      have zf := HWU.out.f.cell 0
      simp only [List.getElem?_toArray, List.getElem?_cons_zero] at zf
      clear hu0 bu hOut hLk hW hB hjl
      go_wp2_with fail
      (with_reducible refine (flights_any B fp pb mb s U HWU.out.flow).mono ?_)
      rintro e w2 ⟨v2, rfl, ho2, hb2⟩
      have hs2 := Sl.of_own ho2
      obtain ⟨A2, cap2, rfl, -, -, -⟩ := hs2.form
      have HS2 := Lib.hid hs2
      have HW2 := Lib.hid (HWU.out.below hb2)
      have HI2 := Lib.hid (HIU.out.below hb2)
      have HB2 := Lib.hid (HBU.out.trans (hb2.mono (by have := HBU.out.size; omega)))
      have hfl : s.fl.length ≤ 64 := HN.out.ok.fl
      clear ho2 hs2 hb2 HWU HIU HBU zf
      go_wp2_with fail
      go_loopw [84] (fun iv wq => ∃ (i : Nat), iv = .int .i64 i ∧ i ≤ s.fl.length ∧ Hid (Sl U.heap.size wq 45 7 (.slice A2 s.fl.length cap2) s.fl.length (flL s.fl)) ∧ Hid (Ids ub (oids (s.fl.take i)) wq) ∧ Hid (OnceW B fp pb mb sb rb fa sa ra s fj (ns + L.length) (relF rel (s.fl.take i)) (nr + i) wq) ∧ Hid (Below B0 w wq)) (fun iv _ => ((s.fl.length : Int) - intOf iv).toNat)
      case atStart => exact ⟨0, rfl, Nat.zero_le _, HS2, Lib.hid (by rw [List.take_zero]; exact HI2.out), Lib.hid (by rw [List.take_zero]; exact HW2.out), HB2⟩
      case round =>
        obtain ⟨i, rfl, hi, hS, hI, hW, hB⟩ := hrel
        by_cases hil : i < s.fl.length
        · obtain ⟨x, hx⟩ : ∃ x, s.fl[i]? = some x := ⟨_, List.getElem?_eq_getElem hil⟩
          have hxm := List.mem_of_getElem? hx
          obtain ⟨g, o, cap, ev, -, -, -, -, hcl⟩ := hS.out.at (by omega)
          injection ev with e1 e2 e3
          subst e1
          have hrange : wr.rangeAt g (o + i * 7) (ofA x).toList := fun j u hu => by
            rw [Nat.add_assoc]
            exact hcl _ u (flL_at hx j u hu)
          have hids := HN.out.ok.ids x hxm
          have hwf := wf_id (by omega : 0 ≤ x.id) hids.2
          have hnew := oids_new hx HN.out.ok.nd
          have hfs := HN.out.fs x hxm
          have hp2 := (once_two HN.out).1 x hxm
          have hpl : x.m.payload.size ≤ maxLen := by rw [hp2]; unfold maxLen; omega
          have hol : (oids (s.fl.take i)).length ≤ 64 := by rw [oids_length, List.length_take]; omega
          obtain ⟨Y, hY⟩ : ∃ Y, wr.alloc (.cells (ofA zOF) 45) = Y := ⟨_, rfl⟩
          have hy : Blk Y wr.heap.size (ofA zOF) 45 := by rw [← hY]; exact Blk.new _ _ _
          have by_ : Below wr.heap.size wr Y := by rw [← hY]; exact (Below.refl _ _).alloc (Nat.le_refl _) _
          obtain ⟨Z, hZ⟩ : ∃ Z, Y.setRow wr.heap.size (ofA x) = Z := ⟨_, rfl⟩
          have hz : Blk Z wr.heap.size (ofA x) 45 := by rw [← hZ]; exact hy.setRow
          have bz : Below wr.heap.size wr Z := by rw [← hZ]; exact below_setRow by_ (Nat.le_refl _) _
          have HY := Lib.hid hy
          have HZ := Lib.hid hZ
          have HRG := Lib.hid hrange
          have hWZ := hW.out.below bz
          have hIZ := hI.out.below bz
          have hSZ := hS.out.below bz
          have hBZ := hB.out.trans (bz.mono (by have := hB.out.size; omega))
          have k1 := hIZ.look hwf
          rw [decide_eq_false hnew] at k1
          have k2 := hWZ.snt.look hpl
          rw [hfs] at k2
          simp only [Option.getD_some] at k2
          have y0 : Z.cell? ⟨wr.heap.size, 0, none⟩ = some (.int .i64 x.id) := hz.cell 0
          have y2 : Z.cell? ⟨wr.heap.size, 2, none⟩ = some (.string x.m.payload) := hz.cell 2
          have zs := hWZ.s.cell 0
          simp only [List.getElem?_toArray, List.getElem?_cons_zero] at zs
          obtain ⟨w3, hst, hI3, hg3⟩ := hIZ.store hwf hnew hol
          have hmap : MapAt ub Z := hIZ.obj
          have hW3 := hWZ.map hg3 hmap m1 m2 m3
          have hz3 := hz.mapT hg3 hmap
          have hS3 := hSZ.mapT hg3 hmap
          have hB3 := hBZ.grown hg3 (by have := hBZ.size; omega) (fun k hk => by injection hk with hk; omega)
          have u2 : w3.cell? ⟨wr.heap.size, 2, none⟩ = some (.string x.m.payload) := hz3.cell 2
          have u6 : w3.cell? ⟨wr.heap.size, 6, none⟩ = some (.bool x.rel) := hz3.cell 6
          have zr := hW3.r.cell 0
          simp only [List.getElem?_toArray, List.getElem?_cons_zero] at zr
          have k3 := hW3.rls.look hpl
          obtain ⟨rv, hrv⟩ : ∃ rv, relF rel (s.fl.take i) x.m.payload = rv := ⟨_, rfl⟩
          rw [hrv] at k3
          obtain ⟨w4, hst4, hR4, hg4⟩ := hW3.rls.store hpl (rv || x.rel) (by unfold maxLen; omega)
          have hmap3 : MapAt rb w3 := hW3.rls.obj
          rw [← relF_step hx (by rw [hrv])] at hR4
          rw [← oids_step hx] at hI3
          have HW4 := Lib.hid (hW3.rels hR4 hg4)
          have HI4 := Lib.hid (hI3.mapT hg4 (fun e => m2 e.symm))
          have HS4 := Lib.hid (hS3.mapT hg4 hmap3)
          have HB4 := Lib.hid (hB3.grown hg4 (by have := hB3.size; omega) (fun k hk => by injection hk with hk; omega))
          have II : Hid (i < s.fl.length) := Lib.hid hil
          have iI : (i : Int) < (s.fl.length : Int) := by omega
          obtain ⟨xid, hxid⟩ : ∃ xid, x.id = xid := ⟨_, rfl⟩
          obtain ⟨pl, hple⟩ : ∃ pl, x.m.payload = pl := ⟨_, rfl⟩
          obtain ⟨xr, hxr⟩ : ∃ xr, x.rel = xr := ⟨_, rfl⟩
          rw [hxid] at k1 k2 y0 hst
          rw [hple] at k2 y2 u2 k3 hst4
          rw [hxr] at u6 hst4
          have hns3 : nr + i + 1 = nr + (i + 1) := by omega
          rw [hns3] at HW4
          unfold zOF ofA at hY
          clear hx hxm hcl hrange hids hwf hnew hfs hp2 hpl hol hy by_ hz bz hWZ hIZ hSZ hBZ hI3 hg3 hmap hW3 hz3 hS3 hB3 hR4 hg4 hmap3 hS hI hW hB e2 e3 hil hrv hxid hple hxr hZ hns3
          cases rv
          all_goals
            simp only [Bool.true_or, Bool.false_or] at hst4
            go_wp2_with (first | (refine wpList_load_at rfl 45 (.tmp 86) rfl g (o + i * 7) rfl (ofA x) _ HRG.out Try.underlying45 rfl fli_size ?_) | (refine wpList_store_rowZ rfl 45 (.tmp 14) (.tmp 87) rfl rfl wr.heap.size (ofA x) rfl rfl 45 (ofA zOF) HY.out fli_size rfl (ofA_one2 _) Z HZ.out ?_) | (fail))
            go_roundw
            case rel => exact ⟨i + 1, by go_num, by have := II.out; omega, HS4, HI4, HW4, HB4⟩
            case measure => have := II.out; simp [intOf]; omega
        · obtain rfl : i = s.fl.length := by omega
          have hnn : ¬ ((s.fl.length : Int) < (s.fl.length : Int)) := by omega
          go_wp2
          go_ret
          exact ⟨rfl, by have := hW.out; rw [List.take_length] at this; exact this, hB.out⟩
end Go.Proofs.Ytnclobnnnihpfaa
