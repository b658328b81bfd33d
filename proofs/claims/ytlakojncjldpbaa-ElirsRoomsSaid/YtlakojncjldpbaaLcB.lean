/- The cache of low inter-reference recency: State. -/
import Derived.Test.YtlakojncjldpbaaLcA
import Derived.Test.YtlakojncjldpbaaGApp
namespace Go.Proofs.Ytlakojncjldpbaa
open Go.RowKit Hop
set_option linter.unusedVariables false
set_option linter.unusedSimpArgs false
set_option maxRecDepth 100000
def encI (x : LI) : List Value := [.int .u64 x.key, .int .i64 x.kind]
/-- Items lie in a slice. -/
def IL (T : Nat) (w : World) (v : Value) (L : List LI) : Prop := Row w T 2 v L.length (flat encI L)
theorem li_info : (Try.prog.info? 143).map (fun i => (i.zero, i.size, i.bytes)) = some (some (.agg #[.int .u64 0, .int .i64 0]), 2, 16) := by kernel_rfl
theorem il_lit (w : World) (key kd : Int) : Row (w.alloc (.cells #[.int .u64 key, .int .i64 kd] 143)) 143 2 (.slice (some ⟨w.heap.size, 0, none⟩) 1 1) 1 [.int .u64 key, .int .i64 kd] :=
  ⟨rfl, .inr ⟨w.heap.size, 1, _, rfl, Blk.new0 w [.int .u64 key, .int .i64 kd] 143, Nat.le_refl _, by decide, Nat.le_refl _, rfl⟩⟩
theorem one_kk {key kd : Int} : ∀ u ∈ [Value.int .u64 key, .int .i64 kd], u.oneCell' = true := by
  intro u hu
  simp only [List.mem_cons, List.not_mem_nil, or_false] at hu
  rcases hu with rfl | rfl <;> rfl
section
variable {px : Nat} {O : Nat → Prop} {s : LS} {p1 p2 : Nat}
set_option maxHeartbeats 6400000 in
theorem lstate_ca (w : World) (H : Lca w px O s p1 p2) :
    Calls Try.prog 83 #[P0 px] w fun e w' => ∃ v1 v2, e = .returned (.agg #[.int .i64 s.c, v1, v2]) ∧ IL 143 w' v1 s.s ∧ KL w' v2 s.q ∧ Below w.heap.size w w' := by
  obtain ⟨ps, pq, O1, O2, H, rfl⟩ := H
  obtain ⟨c, S, q⟩ := s
  simp only at H ⊢
  have A0 := (Below.refl w.heap.size w).alloc (Nat.le_refl _) (.cells #[.int .i64 0, .slice none 0 0, .slice none 0 0] 88)
  obtain ⟨W, hW⟩ : ∃ W, W = w.alloc (.cells #[.int .i64 0, .slice none 0 0, .slice none 0 0] 88) := ⟨_, rfl⟩
  have b0 : Blk W w.heap.size [.int .i64 0, .slice none 0 0, .slice none 0 0] 88 := by rw [hW]; exact Blk.new0 w [.int .i64 0, .slice none 0 0, .slice none 0 0] 88
  rw [← hW] at A0
  have HP0 := Go.Lib.hid H
  have HND := Go.Lib.hid (nd_lE H.st.qok)
  have HKS2 := Go.Lib.hid (fun (k : Int) (hk : k ∈ keysL S) => ks_lE H.st.qok hk)
  have hlen := len_lE H.st.qok
  have HA0 := Go.Lib.hid A0
  have HW := Go.Lib.hid hW
  have Hb0 := Go.Lib.hid b0
  have HK : Hid (∀ x, Below W.drew.heap.size W.drew x → Calls Try.prog 116 #[P0 pq, .int .i64 0] x fun e w' => ∃ v, e = .returned v ∧ KL w' v q ∧ (∀ b, v.ownBlock = some b → x.heap.size ≤ b) ∧ Below x.heap.size x w' ∧ Below W.drew.heap.size W.drew w') := Go.Lib.hid (fun x hu => (keys_q x ((H.keep A0).qu.keep ((Below.refl _ _).drew.trans hu))).mono (fun e w' ⟨v, h1, h2, h3, h4⟩ => ⟨v, h1, h2, h3, h4, hu.trans (h4.mono hu.size)⟩))
  have SS : ∀ W', Below W.drew.heap.size W.drew W' → (W'.cell? ⟨px, 5, none⟩ = some (.int .i64 c) ∧ W'.cell? ⟨px, 1, none⟩ = some (P0 pq)) := fun W' h => by
    have x := (H.keep A0).x.keep ((Below.refl _ _).drew.trans h)
    exact ⟨by simpa using x.cell 5, by simpa using x.cell 1⟩
  have HS1 := Go.Lib.hid SS
  have HS3 := Go.Lib.hid (fun W' B u0 u1 u2 (hb : Below W.drew.heap.size W.drew W') (hB : W.heap.size ≤ B) => SS _ (below_set (o := 2) (below_set (o := 1) (below_set (o := 0) hb hB u0) hB u1) hB u2))
  have HS0 := Go.Lib.hid (SS _ (Below.refl _ _))
  have lx := H.x.lt
  clear H A0 hW b0 SS
  go_enter Try.func83, Try.ntmps83
  go_wp2_with fail
  rw [← HW.out]
  go_region_held3 (fun W' => W'.cell? ⟨px, 5, none⟩ = some (.int .i64 c) ∧ W'.cell? ⟨px, 1, none⟩ = some (P0 pq))
    (first | with_reducible exact HS3.out _ _ _ _ _ hb1 (Nat.le_refl _) | with_reducible exact HS3.out _ _ _ _ _ hb1 hb1.size | with_reducible exact HS1.out _ hb1 | with_reducible exact HS1.out _ (hb1.alloc hb1.size _) | with_reducible exact HS1.out _ ((Below.refl _ _).alloc (Nat.le_refl _) _) | exact HS0.out)
    (first | (go_at_call 116; refine (HK.out _ (by first | exact Below.refl _ _ | exact (Below.refl _ _).alloc (Nat.le_refl _) _)).mono ?_; rintro e w1 ⟨v, rfl, hk, ho, hb1', hb1⟩; obtain ⟨av, cv, rfl⟩ := hk.form; (try (have bz := (Blk.new0 W.drew [.int .i64 0, .slice none 0 0, .slice none 0 0] 88).keep hb1'; have z0 := bz.cell 0; have z1 := bz.cell 1; have z2 := bz.cell 2; have f0 := bz.frozen 0; have f1 := bz.frozen 1; have f2 := bz.frozen 2; have lz := bz.lt; simp only [List.getElem?_cons_zero, List.getElem?_cons_succ, World.size_drew] at z0 z1 z2 f0 f1 f2 lz))))
  /- ends -/
  · obtain ⟨W1, hW1⟩ : ∃ W1, W1 = w1.alloc (.cells #[.int .i64 c, .slice none 0 0, .slice av q.length cv] 88) := ⟨_, rfl⟩
    obtain ⟨qv, hqv⟩ : ∃ qv : Value, qv = .slice av q.length cv := ⟨_, rfl⟩
    have hA1 : Below w1.heap.size w1 W1 := by rw [hW1]; exact (Below.refl _ _).alloc (Nat.le_refl _) _
    have b1 : Blk W1 w1.heap.size [.int .i64 c, .slice none 0 0, .slice av q.length cv] 88 := by rw [hW1]; exact Blk.new0 w1 [.int .i64 c, .slice none 0 0, .slice av q.length cv] 88
    have hq1 := hk.keep hA1
    have hbw : Below w.heap.size w W1 := HA0.out.trans (((Below.refl _ _).drew.trans (hb1.trans (hA1.mono hb1.size))).mono HA0.out.size)
    have h00 : Blk W1 w.heap.size [.int .i64 0, .slice none 0 0, .slice none 0 0] 88 := (((Hb0.out.drew.keep hb1).keep hA1))
    have hneB : w.heap.size ≠ w1.heap.size := by have z1 := hb1.size; have z2 := Hb0.out.lt; have z3 : W.drew.heap.size = W.heap.size := rfl; omega
    have hwB : w.heap.size ≤ w1.heap.size := by have z1 := hb1.size; have z2 := HA0.out.size; have z3 : W.drew.heap.size = W.heap.size := rfl; omega
    rw [← hW1]
    rw [← hqv] at b1 hq1 ⊢
    clear hW1 hA1 hqv hk ho hb1 hb1'
    generalize w1.heap.size = B at *
    have H00 := Go.Lib.hid h00
    have HQ := Go.Lib.hid hq1
    have HB := Go.Lib.hid b1
    have HBW := Go.Lib.hid hbw
    have hpw := HP0.out.keep hbw
    have c0 := hpw.x.cell 0
    have lx1 := hpw.x.lt
    simp only [List.getElem?_cons_zero, List.getElem?_cons_succ] at c0
    have HKS := Go.Lib.hid (keys_l W1 hpw.st)
    have hlB := b1.lt
    clear hq1 b1 hbw hpw h00
    go_wp2_with fail
    refine HKS.out.mono ?_
    rintro e w2 ⟨vk, rfl, hk2, ho2, hb2⟩
    obtain ⟨ak, ck, rfl⟩ := hk2.form
    have HK2 := Go.Lib.hid hk2
    have HB2 := Go.Lib.hid (HBW.out.trans (hb2.mono HBW.out.size))
    have HQ2 := Go.Lib.hid (HQ.out.keep hb2)
    have HBB := Go.Lib.hid (HB.out.keep hb2)
    have H02 := Go.Lib.hid (H00.out.keep hb2)
    have hz2 := hb2.size
    clear hk2 ho2 hb2 c0 HKS
    rw [keysL_len] at *
    go_wp2_with fail
    go_loopw [25] (fun i wr => ∃ (j : Nat) (sv : Value), j ≤ S.length ∧ i = .int .i64 j ∧ Hid (Blk wr B [.int .i64 c, sv, qv] 88) ∧ Hid (IL 143 wr sv (S.take j)) ∧ Hid (∀ b, sv.ownBlock = some b → w.heap.size ≤ b) ∧ Hid (KL wr (.slice ak S.length ck) (keysL S)) ∧ Hid (KL wr qv q) ∧ Hid (Below w.heap.size w wr) ∧ Hid (Blk wr w.heap.size [.int .i64 0, .slice none 0 0, .slice none 0 0] 88)) (fun i _ => S.length - (intOf i).toNat)
    case atStart => exact ⟨0, .slice none 0 0, by omega, rfl, HBB, Go.Lib.hid (Row.nil _ _ _), Go.Lib.hid (fun b hb => by cases hb), HK2, HQ2, HB2, H02⟩
    case round =>
      obtain ⟨j, sv, hj, rfl, hbb, hil, hown, hvk, hvq, hbw, h00⟩ := hrel
      clear HBB HK2 HQ2 HB2 H00 H02
      by_cases hlt : j < S.length
      · obtain ⟨g, key, rfl, hc1, hc2, hcell, htk, hget⟩ := hvk.out.get (j := j) (by rw [keysL_len]; exact hlt)
        rw [keysL_len] at hc1
        have gl := (hvk.out.lt (b := g) rfl).1
        obtain ⟨kd, hS, hkd⟩ : ∃ kd, S.take (j + 1) = S.take j ++ [⟨key, kd⟩] ∧ kindOf S key = kd := by
          have h1 : S[j]? = some S[j] := List.getElem?_eq_getElem hlt
          have h2 : (S[j]).key = key := by
            unfold keysL at hget
            rw [List.getElem?_map, h1] at hget
            exact Option.some.inj hget
          refine ⟨(S[j]).kind, ?_, ?_⟩
          · rw [List.take_add_one, h1, ← h2]
            rfl
          · rw [← h2]; exact kindOf_mem HND.out (List.getElem_mem hlt)
        have HSX := Go.Lib.hid hS
        have hkr := HKS2.out key (List.mem_of_getElem? hget)
        have hpw := (HP0.out.keep hbw.out).drew
        have FL := flag_l key wr.drew hkr.1 hkr.2 hpw.st
        rw [hkd] at FL
        have HFL := Go.Lib.hid FL
        have HY0 : Hid (wr.drew.cell? ⟨px, 0, none⟩ = some (P0 ps)) := Go.Lib.hid (by simpa using hpw.x.cell 0)
        have hz0 : wr.drew.cell? ⟨B, 1, none⟩ = some sv := by simpa using hbb.out.cell 1
        have HV1 : Hid (∀ V, Below wr.drew.heap.size wr.drew V → V.cell? ⟨px, 0, none⟩ = some (P0 ps) ∧ V.cell? ⟨B, 1, none⟩ = some sv) := Go.Lib.hid (fun V hV => ⟨by simpa using (hpw.x.keep hV).cell 0, by simpa using (hbb.out.drew.keep hV).cell 1⟩)
        have hjl : (S.take j).length = j := by rw [List.length_take]; omega
        have hil2 : Row wr 143 2 sv j (flat encI (S.take j)) := by have q := hil.out; unfold IL at q; rw [hjl] at q; exact q
        have HX : Hid (∀ V, Below wr.drew.heap.size wr.drew V → Row V 143 2 sv j (flat encI (S.take j)) ∧ Blk V B [.int .i64 c, sv, qv] 88 ∧ KL V (.slice (some ⟨g, 0, none⟩) S.length ck) (keysL S) ∧ KL V qv q ∧ Below w.heap.size w V ∧ Blk V w.heap.size [.int .i64 0, .slice none 0 0, .slice none 0 0] 88) := Go.Lib.hid (fun V hV => by
          have D : Below wr.heap.size wr V := (Below.refl _ _).drew.trans hV
          exact ⟨Row.keep hil2 D, hbb.out.keep D, hvk.out.keep D, hvq.out.keep D, hbw.out.trans (D.mono hbw.out.size), h00.out.keep D⟩)
        have HM1 : Hid (j + 1 ≤ maxLen) := Go.Lib.hid (by unfold maxLen; omega)
        have HM2 : Hid ((j + 1) * 16 ≤ 140737488355328) := Go.Lib.hid (by omega)
        have hlB2 : B < wr.heap.size := hbb.out.lt
        have AFT : ∀ w5, Below wr.drew.heap.size wr.drew w5 → ∀ y7 w7, Row w7 143 2 y7 (j + 1) (flat encI (S.take j) ++ [.int .u64 key, .int .i64 kd]) → Fr (fun b => sv.ownBlock = some b) (w5.alloc (.cells #[.int .u64 key, .int .i64 kd] 143)) w7 → (∀ b, y7.ownBlock = some b → sv.ownBlock = some b ∨ (w5.alloc (.cells #[.int .u64 key, .int .i64 kd] 143)).heap.size ≤ b) →
            Blk w7 B [.int .i64 c, sv, qv] 88 ∧ w7.cell? ⟨px, 0, none⟩ = some (P0 ps) ∧ True ∧ True ∧ (w7.setCell ⟨B, 1, none⟩ y7).cell? ⟨px, 0, none⟩ = some (P0 ps) ∧
            (Blk (w7.setCell ⟨B, 1, none⟩ y7) B [.int .i64 c, y7, qv] 88 ∧ IL 143 (w7.setCell ⟨B, 1, none⟩ y7) y7 (S.take (j + 1)) ∧ (∀ b, y7.ownBlock = some b → w.heap.size ≤ b) ∧ KL (w7.setCell ⟨B, 1, none⟩ y7) (.slice (some ⟨g, 0, none⟩) S.length ck) (keysL S) ∧ KL (w7.setCell ⟨B, 1, none⟩ y7) qv q ∧ Below w.heap.size w (w7.setCell ⟨B, 1, none⟩ y7) ∧ Blk (w7.setCell ⟨B, 1, none⟩ y7) w.heap.size [.int .i64 0, .slice none 0 0, .slice none 0 0] 88) := by
          intro w5 hb5 y7 w7 r1 r2 r3
          have A6 := (Below.refl w5.heap.size w5).alloc (Nat.le_refl _) (.cells #[.int .u64 key, .int .i64 kd] 143)
          obtain ⟨x1, x2, x3, x4, x5, x6⟩ := HX.out _ (hb5.trans (A6.mono hb5.size))
          have nB : sv.ownBlock ≠ some B := fun e => by
            obtain ⟨_, cs, h⟩ := Row.lt x1 e
            exact h.ne x2 (by decide) rfl
          have b7 := r2.blk nB x2
          have k7 := Row.frame x3 r2 (fun b hb hv => by
            obtain ⟨_, cs, h⟩ := Row.lt x3 hb
            obtain ⟨_, cs', h'⟩ := Row.lt x1 hv
            exact h.ne h' (by decide) rfl)
          have q7 := Row.frame x4 r2 (fun b hb hv => by
            obtain ⟨_, cs, h⟩ := Row.lt x4 hb
            obtain ⟨_, cs', h'⟩ := Row.lt x1 hv
            exact h.ne h' (by decide) rfl)
          have w7b : Below w.heap.size w w7 := below_fr x5 r2 (Nat.le_refl _) hown.out
          have p7 : w7.cell? ⟨px, 0, none⟩ = some (P0 ps) := by simpa using (HP0.out.keep w7b).x.cell 0
          have F8 : Fr (fun k => k = B) w7 (w7.setCell ⟨B, 1, none⟩ y7) := (Fr.refl (fun k => k = B) w7).setEq rfl _
          have b8 := b7.set 1 y7
          have w8b : Below w.heap.size w (w7.setCell ⟨B, 1, none⟩ y7) := below_set w7b hwB y7
          refine ⟨b7, p7, trivial, trivial, by simpa using (HP0.out.keep w8b).x.cell 0, b8, ?_, ?_, ?_, ?_, w8b, ?_⟩
          · refine Row.frame (n := (S.take (j + 1)).length) (xs := flat encI (S.take (j + 1))) ?_ F8 (fun b hb e => ?_)
            · rw [HSX.out, List.length_append, hjl]
              have e : flat encI (S.take j ++ [⟨key, kd⟩]) = flat encI (S.take j) ++ [.int .u64 key, .int .i64 kd] := by unfold flat; rw [List.flatMap_append]; rfl
              rw [e]
              exact r1
            · obtain ⟨_, cs, h⟩ := Row.lt r1 hb
              subst e
              exact h.ne b7 (by decide) rfl
          · intro b hb
            rcases r3 b hb with h | h
            · exact hown.out b h
            · have z1 := x5.size
              omega
          · refine Row.frame k7 F8 (fun b hb e => ?_)
            obtain ⟨_, cs, h⟩ := Row.lt k7 hb
            subst e
            exact h.ne b7 (by decide) rfl
          · refine Row.frame q7 F8 (fun b hb e => ?_)
            obtain ⟨_, cs, h⟩ := Row.lt q7 hb
            subst e
            exact h.ne b7 (by decide) rfl
          · refine F8.blk hneB (r2.blk (fun e => ?_) x6)
            obtain ⟨_, cs, h⟩ := Row.lt x1 e
            exact h.ne x6 (by decide) rfl
        have HAFT := Go.Lib.hid AFT
        clear AFT FL hpw hil2 hjl hS hkd hkr htk hget hbb hil hown hvk hvq hbw h00
        go_wp2_with fail
        have AFT := HAFT.out
        refine wp_region_held_drew (S := fun W' => W'.cell? ⟨px, 0, none⟩ = some (P0 ps)) (by kernel_rfl) HY0.out (fun hHeld => ?_)
        refine wpAnyH_take (i := 0) (v := ?vab0) rfl (by kernel_rfl) (by kernel_rfl) (by kernel_rfl) (fun _ _ _ h => h) (Or.inl ⟨by rfl, ?hyab0⟩) (by assumption) ?restab0
        case hyab0 => intro w' hSw; (try dsimp only at hSw); go_simp; first | done | with_reducible rfl
        try simp only [Act.put, List.getElem_toArray, List.getElem_cons_succ, List.getElem_cons_zero, List.setIfInBounds_toArray, List.set_cons_zero, List.set_cons_succ]
        refine wpAnyH_take (i := 2) (v := ?vac2) rfl (by kernel_rfl) (by kernel_rfl) (by kernel_rfl) (fun _ _ _ h => h) (Or.inl ⟨by rfl, ?hyac2⟩) (by assumption) ?restac2
        case hyac2 => intro w' hSw; (try dsimp only at hSw); go_simp; first | done | with_reducible rfl
        try simp only [Act.put, List.getElem_toArray, List.getElem_cons_succ, List.getElem_cons_zero, List.setIfInBounds_toArray, List.set_cons_zero, List.set_cons_succ]
        refine wpAnyH_take (i := 3) (v := ?vad3) rfl (by kernel_rfl) (by kernel_rfl) (by kernel_rfl) (fun _ _ _ h => h) (Or.inl ⟨by rfl, ?hyad3⟩) (by assumption) ?restad3
        case hyad3 => intro w' hSw; (try dsimp only at hSw); go_simp; first | done | with_reducible rfl
        try simp only [Act.put, List.getElem_toArray, List.getElem_cons_succ, List.getElem_cons_zero, List.setIfInBounds_toArray, List.set_cons_zero, List.set_cons_succ]
        refine wpAnyH_take (i := 4) (v := ?vae4) rfl (by kernel_rfl) (by kernel_rfl) (by kernel_rfl) (fun _ _ _ h => h) (Or.inl ⟨by rfl, ?hyae4⟩) (by assumption) ?restae4
        case hyae4 => intro w' hSw; (try dsimp only at hSw); go_simp; first | done | with_reducible rfl
        try simp only [Act.put, List.getElem_toArray, List.getElem_cons_succ, List.getElem_cons_zero, List.setIfInBounds_toArray, List.set_cons_zero, List.set_cons_succ]
        refine wpAnyH_take (i := 5) (v := ?vaf5) rfl (by kernel_rfl) (by kernel_rfl) (by kernel_rfl) (fun _ _ _ h => h) (Or.inl ⟨by rfl, ?hyaf5⟩) (by assumption) ?restaf5
        case hyaf5 => intro w' hSw; (try dsimp only at hSw); go_simp; first | done | with_reducible rfl
        try simp only [Act.put, List.getElem_toArray, List.getElem_cons_succ, List.getElem_cons_zero, List.setIfInBounds_toArray, List.set_cons_zero, List.set_cons_succ]
        refine wpAnyH_take (i := 6) (v := ?vag6) rfl (by kernel_rfl) (by kernel_rfl) (by kernel_rfl) (fun _ _ _ h => h) (Or.inl ⟨by rfl, ?hyag6⟩) (by assumption) ?restag6
        case hyag6 => intro w' hSw; (try dsimp only at hSw); go_simp; first | done | with_reducible rfl
        try simp only [Act.put, List.getElem_toArray, List.getElem_cons_succ, List.getElem_cons_zero, List.setIfInBounds_toArray, List.set_cons_zero, List.set_cons_succ]
        refine wpAnyH_take (i := 7) (v := ?vah7) rfl (by kernel_rfl) (by kernel_rfl) (by kernel_rfl) (fun _ _ _ h => h) (Or.inl ⟨by rfl, ?hyah7⟩) (by assumption) ?restah7
        case hyah7 => intro w' hSw; (try dsimp only at hSw); go_simp; first | done | with_reducible rfl
        try simp only [Act.put, List.getElem_toArray, List.getElem_cons_succ, List.getElem_cons_zero, List.setIfInBounds_toArray, List.set_cons_zero, List.set_cons_succ]
        refine wpAnyH_ready (rs := [1, 8]) (by kernel_rfl) (by simp) ?_
        refine AllReadyH.cons rfl (fun K hK => ?_) (AllReadyH.cons rfl (fun K hK => ?_) AllReadyH.nil)
        · go_simp
          refine hK.out _ _ HY0.out (fun hHeld => ?_)
          clear hK K
          try simp only [Act.put, List.getElem_toArray, List.getElem_cons_succ, List.getElem_cons_zero, List.setIfInBounds_toArray, List.set_cons_zero, List.set_cons_succ]
          refine wpAnyH_ready (rs := [8]) (by kernel_rfl) (by simp) ?_
          refine AllReadyH.cons rfl (fun K hK => ?_) AllReadyH.nil
          go_simp
          refine HFL.out.mono ?_
          rintro e w5 ⟨rfl, hb5⟩
          obtain ⟨y5, z5⟩ := HV1.out w5 hb5
          have x5 := HX.out w5 hb5
          go_wp2_with fail
          refine hK.out _ _ y5 (fun hHeld => ?_)
          clear hK K
          try simp only [Act.put, List.getElem_toArray, List.getElem_cons_succ, List.getElem_cons_zero, List.setIfInBounds_toArray, List.set_cons_zero, List.set_cons_succ]
          refine wpAnyH_take (i := 9) (v := ?vai9) rfl (by kernel_rfl) (by kernel_rfl) (by kernel_rfl) (fun _ _ _ h => h) (Or.inl ⟨by rfl, ?hyai9⟩) (by assumption) ?restai9
          case hyai9 => intro w' hSw; (try dsimp only at hSw); go_simp; first | done | with_reducible rfl
          try simp only [Act.put, List.getElem_toArray, List.getElem_cons_succ, List.getElem_cons_zero, List.setIfInBounds_toArray, List.set_cons_zero, List.set_cons_succ]
          have A6 := (Below.refl w5.heap.size w5).alloc (Nat.le_refl _) (.cells #[.int .u64 key, .int .i64 kd] 143)
          have B6 := hb5.trans (A6.mono hb5.size)
          obtain ⟨y6, z6⟩ := HV1.out _ B6
          have x6 := HX.out _ B6
          refine wpAnyH_ready (rs := [10]) (by kernel_rfl) (by simp) ?_
          refine AllReadyH.cons rfl (fun K hK => ?_) AllReadyH.nil
          go_simp
          refine hK.out _ _ y6 (fun hHeld => ?_)
          clear hK K
          try simp only [Act.put, List.getElem_toArray, List.getElem_cons_succ, List.getElem_cons_zero, List.setIfInBounds_toArray, List.set_cons_zero, List.set_cons_succ]
          refine wpAnyH_ready (rs := [11]) (by kernel_rfl) (by simp) ?_
          refine AllReadyH.cons rfl (fun K hK => ?_) AllReadyH.nil
          refine step_append_rows rfl (.tmp 30) (.tmp 39) 86 rfl 143 (.agg #[.int .u64 0, .int .i64 0]) 2 16 Try.underlying86 li_info rfl (by decide) sv j (flat encI (S.take j)) rfl x6.1 (.slice (some ⟨w5.heap.size, 0, none⟩) 1 1) 1 [.int .u64 key, .int .i64 kd] rfl (il_lit w5 key kd) one_kk HM1.out HM2.out ?_
          intro y7 w7 r1 r2 r3
          obtain ⟨a7, cp7, rfl⟩ := row_form r1
          obtain ⟨t1, t2, t3, t4, t5, t6⟩ := AFT w5 hb5 _ w7 r1 r2 r3
          refine hK.out _ _ t2 (fun hHeld => ?_)
          clear hK K
          try simp only [Act.put, List.getElem_toArray, List.getElem_cons_succ, List.getElem_cons_zero, List.setIfInBounds_toArray, List.set_cons_zero, List.set_cons_succ]
          refine wpAnyH_take (i := 12) (v := ?vaj12) rfl (by kernel_rfl) (by kernel_rfl) (by kernel_rfl) (fun _ _ _ h => h) (Or.inl ⟨by rfl, ?hyaj12⟩) (by assumption) ?restaj12
          case hyaj12 => intro w' hSw; (try dsimp only at hSw); go_simp; first | done | with_reducible rfl
          try simp only [Act.put, List.getElem_toArray, List.getElem_cons_succ, List.getElem_cons_zero, List.setIfInBounds_toArray, List.set_cons_zero, List.set_cons_succ]
          refine wpAnyH_ready (rs := [13]) (by kernel_rfl) (by simp) ?_
          refine AllReadyH.cons rfl (fun K hK => ?_) AllReadyH.nil
          have d1 := t1.cell 1
          have g1 := t1.frozen 1
          have l1 := t1.lt
          simp only [List.getElem?_cons_zero, List.getElem?_cons_succ] at d1
          go_simp
          refine hK.out _ _ t5 (fun hHeld => ?_)
          clear hK K
          try simp only [Act.put, List.getElem_toArray, List.getElem_cons_succ, List.getElem_cons_zero, List.setIfInBounds_toArray, List.set_cons_zero, List.set_cons_succ]
          refine wpAnyH_done (by kernel_rfl) ?_ _
          obtain ⟨u1, u2, u3, u4, u5, u6, u7⟩ := t6
          have HU1 := Go.Lib.hid u1
          have HU2 := Go.Lib.hid u2
          have HU3 := Go.Lib.hid u3
          have HU4 := Go.Lib.hid u4
          have HU5 := Go.Lib.hid u5
          have HU6 := Go.Lib.hid u6
          have HU7 := Go.Lib.hid u7
          clear u1 u2 u3 u4 u5 u6 u7 t1 t2 t3 t4 t5 r1 r2 r3 d1 g1 l1
          go_wp2_with fail
          go_roundw
          case rel => exact ⟨j + 1, _, by omega, by go_num, HU1, HU2, HU3, HU4, HU5, HU6, HU7⟩
          case measure => simp [intOf]; omega
        · go_simp
          refine HFL.out.mono ?_
          rintro e w5 ⟨rfl, hb5⟩
          obtain ⟨y5, z5⟩ := HV1.out w5 hb5
          have x5 := HX.out w5 hb5
          go_wp2_with fail
          refine hK.out _ _ y5 (fun hHeld => ?_)
          clear hK K
          try simp only [Act.put, List.getElem_toArray, List.getElem_cons_succ, List.getElem_cons_zero, List.setIfInBounds_toArray, List.set_cons_zero, List.set_cons_succ]
          refine wpAnyH_take (i := 9) (v := ?vam9) rfl (by kernel_rfl) (by kernel_rfl) (by kernel_rfl) (fun _ _ _ h => h) (Or.inl ⟨by rfl, ?hyam9⟩) (by assumption) ?restam9
          case hyam9 => intro w' hSw; (try dsimp only at hSw); go_simp; first | done | with_reducible rfl
          try simp only [Act.put, List.getElem_toArray, List.getElem_cons_succ, List.getElem_cons_zero, List.setIfInBounds_toArray, List.set_cons_zero, List.set_cons_succ]
          have A6 := (Below.refl w5.heap.size w5).alloc (Nat.le_refl _) (.cells #[.int .u64 key, .int .i64 kd] 143)
          have B6 := hb5.trans (A6.mono hb5.size)
          obtain ⟨y6, z6⟩ := HV1.out _ B6
          have x6 := HX.out _ B6
          refine wpAnyH_ready (rs := [1, 10]) (by kernel_rfl) (by simp) ?_
          refine AllReadyH.cons rfl (fun K hK => ?_) (AllReadyH.cons rfl (fun K hK => ?_) AllReadyH.nil)
          · go_simp
            refine hK.out _ _ y5 (fun hHeld => ?_)
            clear hK K
            try simp only [Act.put, List.getElem_toArray, List.getElem_cons_succ, List.getElem_cons_zero, List.setIfInBounds_toArray, List.set_cons_zero, List.set_cons_succ]
            refine wpAnyH_ready (rs := [10]) (by kernel_rfl) (by simp) ?_
            refine AllReadyH.cons rfl (fun K hK => ?_) AllReadyH.nil
            go_simp
            refine hK.out _ _ y6 (fun hHeld => ?_)
            clear hK K
            try simp only [Act.put, List.getElem_toArray, List.getElem_cons_succ, List.getElem_cons_zero, List.setIfInBounds_toArray, List.set_cons_zero, List.set_cons_succ]
            refine wpAnyH_ready (rs := [11]) (by kernel_rfl) (by simp) ?_
            refine AllReadyH.cons rfl (fun K hK => ?_) AllReadyH.nil
            refine step_append_rows rfl (.tmp 30) (.tmp 39) 86 rfl 143 (.agg #[.int .u64 0, .int .i64 0]) 2 16 Try.underlying86 li_info rfl (by decide) sv j (flat encI (S.take j)) rfl x6.1 (.slice (some ⟨w5.heap.size, 0, none⟩) 1 1) 1 [.int .u64 key, .int .i64 kd] rfl (il_lit w5 key kd) one_kk HM1.out HM2.out ?_
            intro y7 w7 r1 r2 r3
            obtain ⟨a7, cp7, rfl⟩ := row_form r1
            obtain ⟨t1, t2, t3, t4, t5, t6⟩ := AFT w5 hb5 _ w7 r1 r2 r3
            refine hK.out _ _ t2 (fun hHeld => ?_)
            clear hK K
            try simp only [Act.put, List.getElem_toArray, List.getElem_cons_succ, List.getElem_cons_zero, List.setIfInBounds_toArray, List.set_cons_zero, List.set_cons_succ]
            refine wpAnyH_take (i := 12) (v := ?vak12) rfl (by kernel_rfl) (by kernel_rfl) (by kernel_rfl) (fun _ _ _ h => h) (Or.inl ⟨by rfl, ?hyak12⟩) (by assumption) ?restak12
            case hyak12 => intro w' hSw; (try dsimp only at hSw); go_simp; first | done | with_reducible rfl
            try simp only [Act.put, List.getElem_toArray, List.getElem_cons_succ, List.getElem_cons_zero, List.setIfInBounds_toArray, List.set_cons_zero, List.set_cons_succ]
            refine wpAnyH_ready (rs := [13]) (by kernel_rfl) (by simp) ?_
            refine AllReadyH.cons rfl (fun K hK => ?_) AllReadyH.nil
            have d1 := t1.cell 1
            have g1 := t1.frozen 1
            have l1 := t1.lt
            simp only [List.getElem?_cons_zero, List.getElem?_cons_succ] at d1
            go_simp
            refine hK.out _ _ t5 (fun hHeld => ?_)
            clear hK K
            try simp only [Act.put, List.getElem_toArray, List.getElem_cons_succ, List.getElem_cons_zero, List.setIfInBounds_toArray, List.set_cons_zero, List.set_cons_succ]
            refine wpAnyH_done (by kernel_rfl) ?_ _
            obtain ⟨u1, u2, u3, u4, u5, u6, u7⟩ := t6
            have HU1 := Go.Lib.hid u1
            have HU2 := Go.Lib.hid u2
            have HU3 := Go.Lib.hid u3
            have HU4 := Go.Lib.hid u4
            have HU5 := Go.Lib.hid u5
            have HU6 := Go.Lib.hid u6
            have HU7 := Go.Lib.hid u7
            clear u1 u2 u3 u4 u5 u6 u7 t1 t2 t3 t4 t5 r1 r2 r3 d1 g1 l1
            go_wp2_with fail
            go_roundw
            case rel => exact ⟨j + 1, _, by omega, by go_num, HU1, HU2, HU3, HU4, HU5, HU6, HU7⟩
            case measure => simp [intOf]; omega
          · go_simp
            refine hK.out _ _ y6 (fun hHeld => ?_)
            clear hK K
            try simp only [Act.put, List.getElem_toArray, List.getElem_cons_succ, List.getElem_cons_zero, List.setIfInBounds_toArray, List.set_cons_zero, List.set_cons_succ]
            refine wpAnyH_ready (rs := [1]) (by kernel_rfl) (by simp) ?_
            refine AllReadyH.cons rfl (fun K hK => ?_) AllReadyH.nil
            go_simp
            refine hK.out _ _ y6 (fun hHeld => ?_)
            clear hK K
            try simp only [Act.put, List.getElem_toArray, List.getElem_cons_succ, List.getElem_cons_zero, List.setIfInBounds_toArray, List.set_cons_zero, List.set_cons_succ]
            refine wpAnyH_ready (rs := [11]) (by kernel_rfl) (by simp) ?_
            refine AllReadyH.cons rfl (fun K hK => ?_) AllReadyH.nil
            refine step_append_rows rfl (.tmp 30) (.tmp 39) 86 rfl 143 (.agg #[.int .u64 0, .int .i64 0]) 2 16 Try.underlying86 li_info rfl (by decide) sv j (flat encI (S.take j)) rfl x6.1 (.slice (some ⟨w5.heap.size, 0, none⟩) 1 1) 1 [.int .u64 key, .int .i64 kd] rfl (il_lit w5 key kd) one_kk HM1.out HM2.out ?_
            intro y7 w7 r1 r2 r3
            obtain ⟨a7, cp7, rfl⟩ := row_form r1
            obtain ⟨t1, t2, t3, t4, t5, t6⟩ := AFT w5 hb5 _ w7 r1 r2 r3
            refine hK.out _ _ t2 (fun hHeld => ?_)
            clear hK K
            try simp only [Act.put, List.getElem_toArray, List.getElem_cons_succ, List.getElem_cons_zero, List.setIfInBounds_toArray, List.set_cons_zero, List.set_cons_succ]
            refine wpAnyH_take (i := 12) (v := ?val12) rfl (by kernel_rfl) (by kernel_rfl) (by kernel_rfl) (fun _ _ _ h => h) (Or.inl ⟨by rfl, ?hyal12⟩) (by assumption) ?restal12
            case hyal12 => intro w' hSw; (try dsimp only at hSw); go_simp; first | done | with_reducible rfl
            try simp only [Act.put, List.getElem_toArray, List.getElem_cons_succ, List.getElem_cons_zero, List.setIfInBounds_toArray, List.set_cons_zero, List.set_cons_succ]
            refine wpAnyH_ready (rs := [13]) (by kernel_rfl) (by simp) ?_
            refine AllReadyH.cons rfl (fun K hK => ?_) AllReadyH.nil
            have d1 := t1.cell 1
            have g1 := t1.frozen 1
            have l1 := t1.lt
            simp only [List.getElem?_cons_zero, List.getElem?_cons_succ] at d1
            go_simp
            refine hK.out _ _ t5 (fun hHeld => ?_)
            clear hK K
            try simp only [Act.put, List.getElem_toArray, List.getElem_cons_succ, List.getElem_cons_zero, List.setIfInBounds_toArray, List.set_cons_zero, List.set_cons_succ]
            refine wpAnyH_done (by kernel_rfl) ?_ _
            obtain ⟨u1, u2, u3, u4, u5, u6, u7⟩ := t6
            have HU1 := Go.Lib.hid u1
            have HU2 := Go.Lib.hid u2
            have HU3 := Go.Lib.hid u3
            have HU4 := Go.Lib.hid u4
            have HU5 := Go.Lib.hid u5
            have HU6 := Go.Lib.hid u6
            have HU7 := Go.Lib.hid u7
            clear u1 u2 u3 u4 u5 u6 u7 t1 t2 t3 t4 t5 r1 r2 r3 d1 g1 l1
            go_wp2_with fail
            go_roundw
            case rel => exact ⟨j + 1, _, by omega, by go_num, HU1, HU2, HU3, HU4, HU5, HU6, HU7⟩
            case measure => simp [intOf]; omega
      · have e : j = S.length := by omega
        subst e
        rw [List.take_length] at hil
        have bb := hbb.out
        obtain ⟨asl, csl, rfl⟩ := row_form hil.out
        have d0 := bb.cell 0
        have d1 := bb.cell 1
        have d2 := bb.cell 2
        have l3 := bb.lt
        have z0 := h00.out.cell 0
        have z1 := h00.out.cell 1
        have z2 := h00.out.cell 2
        have f0 := h00.out.frozen 0
        have f1 := h00.out.frozen 1
        have f2 := h00.out.frozen 2
        have l0 := h00.out.lt
        simp only [List.getElem?_cons_zero, List.getElem?_cons_succ] at d0 d1 d2 z0 z1 z2
        obtain ⟨aq, cq, hqe⟩ := hvq.out.form
        subst hqe
        clear bb
        go_wp2_with fail
        refine bodyPost_ret (v := .agg #[.int .i64 c, .slice asl S.length csl, .slice aq q.length cq]) (by simp [results, Try.results83, go_sem, z0, z1, z2]) rfl ⟨_, _, rfl, ?_, ?_, ?_⟩
        · refine Row.frame hil.out (own := fun k => k = w.heap.size) (by repeat' (first | refine Fr.setEq ?_ ?_ _ | exact Fr.refl _ _ | rfl)) (fun b hb e => ?_)
          obtain ⟨_, cs, h⟩ := Row.lt hil.out hb
          subst e
          exact h.ne h00.out (by decide) rfl
        · refine Row.frame hvq.out (own := fun k => k = w.heap.size) (by repeat' (first | refine Fr.setEq ?_ ?_ _ | exact Fr.refl _ _ | rfl)) (fun b hb e => ?_)
          obtain ⟨_, cs, h⟩ := Row.lt hvq.out hb
          subst e
          exact h.ne h00.out (by decide) rfl
        · repeat' (first | refine below_set ?_ ?_ _ | exact hbw.out | exact Nat.le_refl _)
  · obtain ⟨W1, hW1⟩ : ∃ W1, W1 = ((w1.setCell ⟨W.heap.size, 0, none⟩ (.int .i64 c)).setCell ⟨W.heap.size, 1, none⟩ (.slice none 0 0)).setCell ⟨W.heap.size, 2, none⟩ (.slice av q.length cv) := ⟨_, rfl⟩
    obtain ⟨qv, hqv⟩ : ∃ qv : Value, qv = .slice av q.length cv := ⟨_, rfl⟩
    have b1 : Blk W1 W.heap.size [.int .i64 c, .slice none 0 0, .slice av q.length cv] 88 := by rw [hW1]; exact ((bz.set 0 _).set 1 _).set 2 _
    have F1 : Fr (fun k => k = W.heap.size) w1 W1 := by rw [hW1]; exact (((Fr.refl (fun k => k = W.heap.size) w1).setEq rfl _).setEq rfl _).setEq rfl _
    have hq1 : KL W1 (.slice av q.length cv) q := Row.frame hk F1 (fun b hb e => hk.ne bz (by decide) b hb e)
    have hbw : Below w.heap.size w W1 := by
      have z1 : Below w.heap.size w w1 := HA0.out.trans (((Below.refl _ _).drew.trans hb1).mono HA0.out.size)
      rw [hW1]
      exact below_set (below_set (below_set z1 HA0.out.size _) HA0.out.size _) HA0.out.size _
    have hneB : w.heap.size ≠ W.heap.size := by have z2 := Hb0.out.lt; omega
    have h00 : Blk W1 w.heap.size [.int .i64 0, .slice none 0 0, .slice none 0 0] 88 := F1.blk hneB (Hb0.out.drew.keep hb1)
    have hwB : w.heap.size ≤ W.heap.size := HA0.out.size
    rw [← hW1]
    rw [← hqv] at b1 hq1 ⊢
    clear hW1 F1 hqv hk ho hb1 hb1' bz z0 z1 z2 f0 f1 f2 lz
    generalize W.heap.size = B at *
    have H00 := Go.Lib.hid h00
    have HQ := Go.Lib.hid hq1
    have HB := Go.Lib.hid b1
    have HBW := Go.Lib.hid hbw
    have hpw := HP0.out.keep hbw
    have c0 := hpw.x.cell 0
    have lx1 := hpw.x.lt
    simp only [List.getElem?_cons_zero, List.getElem?_cons_succ] at c0
    have HKS := Go.Lib.hid (keys_l W1 hpw.st)
    have hlB := b1.lt
    clear hq1 b1 hbw hpw h00
    go_wp2_with fail
    refine HKS.out.mono ?_
    rintro e w2 ⟨vk, rfl, hk2, ho2, hb2⟩
    obtain ⟨ak, ck, rfl⟩ := hk2.form
    have HK2 := Go.Lib.hid hk2
    have HB2 := Go.Lib.hid (HBW.out.trans (hb2.mono HBW.out.size))
    have HQ2 := Go.Lib.hid (HQ.out.keep hb2)
    have HBB := Go.Lib.hid (HB.out.keep hb2)
    have H02 := Go.Lib.hid (H00.out.keep hb2)
    have hz2 := hb2.size
    clear hk2 ho2 hb2 c0 HKS
    rw [keysL_len] at *
    go_wp2_with fail
    go_loopw [25] (fun i wr => ∃ (j : Nat) (sv : Value), j ≤ S.length ∧ i = .int .i64 j ∧ Hid (Blk wr B [.int .i64 c, sv, qv] 88) ∧ Hid (IL 143 wr sv (S.take j)) ∧ Hid (∀ b, sv.ownBlock = some b → w.heap.size ≤ b) ∧ Hid (KL wr (.slice ak S.length ck) (keysL S)) ∧ Hid (KL wr qv q) ∧ Hid (Below w.heap.size w wr) ∧ Hid (Blk wr w.heap.size [.int .i64 0, .slice none 0 0, .slice none 0 0] 88)) (fun i _ => S.length - (intOf i).toNat)
    case atStart => exact ⟨0, .slice none 0 0, by omega, rfl, HBB, Go.Lib.hid (Row.nil _ _ _), Go.Lib.hid (fun b hb => by cases hb), HK2, HQ2, HB2, H02⟩
    case round =>
      obtain ⟨j, sv, hj, rfl, hbb, hil, hown, hvk, hvq, hbw, h00⟩ := hrel
      clear HBB HK2 HQ2 HB2 H00 H02
      by_cases hlt : j < S.length
      · obtain ⟨g, key, rfl, hc1, hc2, hcell, htk, hget⟩ := hvk.out.get (j := j) (by rw [keysL_len]; exact hlt)
        rw [keysL_len] at hc1
        have gl := (hvk.out.lt (b := g) rfl).1
        obtain ⟨kd, hS, hkd⟩ : ∃ kd, S.take (j + 1) = S.take j ++ [⟨key, kd⟩] ∧ kindOf S key = kd := by
          have h1 : S[j]? = some S[j] := List.getElem?_eq_getElem hlt
          have h2 : (S[j]).key = key := by
            unfold keysL at hget
            rw [List.getElem?_map, h1] at hget
            exact Option.some.inj hget
          refine ⟨(S[j]).kind, ?_, ?_⟩
          · rw [List.take_add_one, h1, ← h2]
            rfl
          · rw [← h2]; exact kindOf_mem HND.out (List.getElem_mem hlt)
        have HSX := Go.Lib.hid hS
        have hkr := HKS2.out key (List.mem_of_getElem? hget)
        have hpw := (HP0.out.keep hbw.out).drew
        have FL := flag_l key wr.drew hkr.1 hkr.2 hpw.st
        rw [hkd] at FL
        have HFL := Go.Lib.hid FL
        have HY0 : Hid (wr.drew.cell? ⟨px, 0, none⟩ = some (P0 ps)) := Go.Lib.hid (by simpa using hpw.x.cell 0)
        have hz0 : wr.drew.cell? ⟨B, 1, none⟩ = some sv := by simpa using hbb.out.cell 1
        have HV1 : Hid (∀ V, Below wr.drew.heap.size wr.drew V → V.cell? ⟨px, 0, none⟩ = some (P0 ps) ∧ V.cell? ⟨B, 1, none⟩ = some sv) := Go.Lib.hid (fun V hV => ⟨by simpa using (hpw.x.keep hV).cell 0, by simpa using (hbb.out.drew.keep hV).cell 1⟩)
        have hjl : (S.take j).length = j := by rw [List.length_take]; omega
        have hil2 : Row wr 143 2 sv j (flat encI (S.take j)) := by have q := hil.out; unfold IL at q; rw [hjl] at q; exact q
        have HX : Hid (∀ V, Below wr.drew.heap.size wr.drew V → Row V 143 2 sv j (flat encI (S.take j)) ∧ Blk V B [.int .i64 c, sv, qv] 88 ∧ KL V (.slice (some ⟨g, 0, none⟩) S.length ck) (keysL S) ∧ KL V qv q ∧ Below w.heap.size w V ∧ Blk V w.heap.size [.int .i64 0, .slice none 0 0, .slice none 0 0] 88) := Go.Lib.hid (fun V hV => by
          have D : Below wr.heap.size wr V := (Below.refl _ _).drew.trans hV
          exact ⟨Row.keep hil2 D, hbb.out.keep D, hvk.out.keep D, hvq.out.keep D, hbw.out.trans (D.mono hbw.out.size), h00.out.keep D⟩)
        have HM1 : Hid (j + 1 ≤ maxLen) := Go.Lib.hid (by unfold maxLen; omega)
        have HM2 : Hid ((j + 1) * 16 ≤ 140737488355328) := Go.Lib.hid (by omega)
        have hlB2 : B < wr.heap.size := hbb.out.lt
        have AFT : ∀ w5, Below wr.drew.heap.size wr.drew w5 → ∀ y7 w7, Row w7 143 2 y7 (j + 1) (flat encI (S.take j) ++ [.int .u64 key, .int .i64 kd]) → Fr (fun b => sv.ownBlock = some b) (w5.alloc (.cells #[.int .u64 key, .int .i64 kd] 143)) w7 → (∀ b, y7.ownBlock = some b → sv.ownBlock = some b ∨ (w5.alloc (.cells #[.int .u64 key, .int .i64 kd] 143)).heap.size ≤ b) →
            Blk w7 B [.int .i64 c, sv, qv] 88 ∧ w7.cell? ⟨px, 0, none⟩ = some (P0 ps) ∧ True ∧ True ∧ (w7.setCell ⟨B, 1, none⟩ y7).cell? ⟨px, 0, none⟩ = some (P0 ps) ∧
            (Blk (w7.setCell ⟨B, 1, none⟩ y7) B [.int .i64 c, y7, qv] 88 ∧ IL 143 (w7.setCell ⟨B, 1, none⟩ y7) y7 (S.take (j + 1)) ∧ (∀ b, y7.ownBlock = some b → w.heap.size ≤ b) ∧ KL (w7.setCell ⟨B, 1, none⟩ y7) (.slice (some ⟨g, 0, none⟩) S.length ck) (keysL S) ∧ KL (w7.setCell ⟨B, 1, none⟩ y7) qv q ∧ Below w.heap.size w (w7.setCell ⟨B, 1, none⟩ y7) ∧ Blk (w7.setCell ⟨B, 1, none⟩ y7) w.heap.size [.int .i64 0, .slice none 0 0, .slice none 0 0] 88) := by
          intro w5 hb5 y7 w7 r1 r2 r3
          have A6 := (Below.refl w5.heap.size w5).alloc (Nat.le_refl _) (.cells #[.int .u64 key, .int .i64 kd] 143)
          obtain ⟨x1, x2, x3, x4, x5, x6⟩ := HX.out _ (hb5.trans (A6.mono hb5.size))
          have nB : sv.ownBlock ≠ some B := fun e => by
            obtain ⟨_, cs, h⟩ := Row.lt x1 e
            exact h.ne x2 (by decide) rfl
          have b7 := r2.blk nB x2
          have k7 := Row.frame x3 r2 (fun b hb hv => by
            obtain ⟨_, cs, h⟩ := Row.lt x3 hb
            obtain ⟨_, cs', h'⟩ := Row.lt x1 hv
            exact h.ne h' (by decide) rfl)
          have q7 := Row.frame x4 r2 (fun b hb hv => by
            obtain ⟨_, cs, h⟩ := Row.lt x4 hb
            obtain ⟨_, cs', h'⟩ := Row.lt x1 hv
            exact h.ne h' (by decide) rfl)
          have w7b : Below w.heap.size w w7 := below_fr x5 r2 (Nat.le_refl _) hown.out
          have p7 : w7.cell? ⟨px, 0, none⟩ = some (P0 ps) := by simpa using (HP0.out.keep w7b).x.cell 0
          have F8 : Fr (fun k => k = B) w7 (w7.setCell ⟨B, 1, none⟩ y7) := (Fr.refl (fun k => k = B) w7).setEq rfl _
          have b8 := b7.set 1 y7
          have w8b : Below w.heap.size w (w7.setCell ⟨B, 1, none⟩ y7) := below_set w7b hwB y7
          refine ⟨b7, p7, trivial, trivial, by simpa using (HP0.out.keep w8b).x.cell 0, b8, ?_, ?_, ?_, ?_, w8b, ?_⟩
          · refine Row.frame (n := (S.take (j + 1)).length) (xs := flat encI (S.take (j + 1))) ?_ F8 (fun b hb e => ?_)
            · rw [HSX.out, List.length_append, hjl]
              have e : flat encI (S.take j ++ [⟨key, kd⟩]) = flat encI (S.take j) ++ [.int .u64 key, .int .i64 kd] := by unfold flat; rw [List.flatMap_append]; rfl
              rw [e]
              exact r1
            · obtain ⟨_, cs, h⟩ := Row.lt r1 hb
              subst e
              exact h.ne b7 (by decide) rfl
          · intro b hb
            rcases r3 b hb with h | h
            · exact hown.out b h
            · have z1 := x5.size
              omega
          · refine Row.frame k7 F8 (fun b hb e => ?_)
            obtain ⟨_, cs, h⟩ := Row.lt k7 hb
            subst e
            exact h.ne b7 (by decide) rfl
          · refine Row.frame q7 F8 (fun b hb e => ?_)
            obtain ⟨_, cs, h⟩ := Row.lt q7 hb
            subst e
            exact h.ne b7 (by decide) rfl
          · refine F8.blk hneB (r2.blk (fun e => ?_) x6)
            obtain ⟨_, cs, h⟩ := Row.lt x1 e
            exact h.ne x6 (by decide) rfl
        have HAFT := Go.Lib.hid AFT
        clear AFT FL hpw hil2 hjl hS hkd hkr htk hget hbb hil hown hvk hvq hbw h00
        go_wp2_with fail
        have AFT := HAFT.out
        refine wp_region_held_drew (S := fun W' => W'.cell? ⟨px, 0, none⟩ = some (P0 ps)) (by kernel_rfl) HY0.out (fun hHeld => ?_)
        refine wpAnyH_take (i := 0) (v := ?van0) rfl (by kernel_rfl) (by kernel_rfl) (by kernel_rfl) (fun _ _ _ h => h) (Or.inl ⟨by rfl, ?hyan0⟩) (by assumption) ?restan0
        case hyan0 => intro w' hSw; (try dsimp only at hSw); go_simp; first | done | with_reducible rfl
        try simp only [Act.put, List.getElem_toArray, List.getElem_cons_succ, List.getElem_cons_zero, List.setIfInBounds_toArray, List.set_cons_zero, List.set_cons_succ]
        refine wpAnyH_take (i := 2) (v := ?vao2) rfl (by kernel_rfl) (by kernel_rfl) (by kernel_rfl) (fun _ _ _ h => h) (Or.inl ⟨by rfl, ?hyao2⟩) (by assumption) ?restao2
        case hyao2 => intro w' hSw; (try dsimp only at hSw); go_simp; first | done | with_reducible rfl
        try simp only [Act.put, List.getElem_toArray, List.getElem_cons_succ, List.getElem_cons_zero, List.setIfInBounds_toArray, List.set_cons_zero, List.set_cons_succ]
        refine wpAnyH_take (i := 3) (v := ?vap3) rfl (by kernel_rfl) (by kernel_rfl) (by kernel_rfl) (fun _ _ _ h => h) (Or.inl ⟨by rfl, ?hyap3⟩) (by assumption) ?restap3
        case hyap3 => intro w' hSw; (try dsimp only at hSw); go_simp; first | done | with_reducible rfl
        try simp only [Act.put, List.getElem_toArray, List.getElem_cons_succ, List.getElem_cons_zero, List.setIfInBounds_toArray, List.set_cons_zero, List.set_cons_succ]
        refine wpAnyH_take (i := 4) (v := ?vaq4) rfl (by kernel_rfl) (by kernel_rfl) (by kernel_rfl) (fun _ _ _ h => h) (Or.inl ⟨by rfl, ?hyaq4⟩) (by assumption) ?restaq4
        case hyaq4 => intro w' hSw; (try dsimp only at hSw); go_simp; first | done | with_reducible rfl
        try simp only [Act.put, List.getElem_toArray, List.getElem_cons_succ, List.getElem_cons_zero, List.setIfInBounds_toArray, List.set_cons_zero, List.set_cons_succ]
        refine wpAnyH_take (i := 5) (v := ?var5) rfl (by kernel_rfl) (by kernel_rfl) (by kernel_rfl) (fun _ _ _ h => h) (Or.inl ⟨by rfl, ?hyar5⟩) (by assumption) ?restar5
        case hyar5 => intro w' hSw; (try dsimp only at hSw); go_simp; first | done | with_reducible rfl
        try simp only [Act.put, List.getElem_toArray, List.getElem_cons_succ, List.getElem_cons_zero, List.setIfInBounds_toArray, List.set_cons_zero, List.set_cons_succ]
        refine wpAnyH_take (i := 6) (v := ?vas6) rfl (by kernel_rfl) (by kernel_rfl) (by kernel_rfl) (fun _ _ _ h => h) (Or.inl ⟨by rfl, ?hyas6⟩) (by assumption) ?restas6
        case hyas6 => intro w' hSw; (try dsimp only at hSw); go_simp; first | done | with_reducible rfl
        try simp only [Act.put, List.getElem_toArray, List.getElem_cons_succ, List.getElem_cons_zero, List.setIfInBounds_toArray, List.set_cons_zero, List.set_cons_succ]
        refine wpAnyH_take (i := 7) (v := ?vat7) rfl (by kernel_rfl) (by kernel_rfl) (by kernel_rfl) (fun _ _ _ h => h) (Or.inl ⟨by rfl, ?hyat7⟩) (by assumption) ?restat7
        case hyat7 => intro w' hSw; (try dsimp only at hSw); go_simp; first | done | with_reducible rfl
        try simp only [Act.put, List.getElem_toArray, List.getElem_cons_succ, List.getElem_cons_zero, List.setIfInBounds_toArray, List.set_cons_zero, List.set_cons_succ]
        refine wpAnyH_ready (rs := [1, 8]) (by kernel_rfl) (by simp) ?_
        refine AllReadyH.cons rfl (fun K hK => ?_) (AllReadyH.cons rfl (fun K hK => ?_) AllReadyH.nil)
        · go_simp
          refine hK.out _ _ HY0.out (fun hHeld => ?_)
          clear hK K
          try simp only [Act.put, List.getElem_toArray, List.getElem_cons_succ, List.getElem_cons_zero, List.setIfInBounds_toArray, List.set_cons_zero, List.set_cons_succ]
          refine wpAnyH_ready (rs := [8]) (by kernel_rfl) (by simp) ?_
          refine AllReadyH.cons rfl (fun K hK => ?_) AllReadyH.nil
          go_simp
          refine HFL.out.mono ?_
          rintro e w5 ⟨rfl, hb5⟩
          obtain ⟨y5, z5⟩ := HV1.out w5 hb5
          have x5 := HX.out w5 hb5
          go_wp2_with fail
          refine hK.out _ _ y5 (fun hHeld => ?_)
          clear hK K
          try simp only [Act.put, List.getElem_toArray, List.getElem_cons_succ, List.getElem_cons_zero, List.setIfInBounds_toArray, List.set_cons_zero, List.set_cons_succ]
          refine wpAnyH_take (i := 9) (v := ?vau9) rfl (by kernel_rfl) (by kernel_rfl) (by kernel_rfl) (fun _ _ _ h => h) (Or.inl ⟨by rfl, ?hyau9⟩) (by assumption) ?restau9
          case hyau9 => intro w' hSw; (try dsimp only at hSw); go_simp; first | done | with_reducible rfl
          try simp only [Act.put, List.getElem_toArray, List.getElem_cons_succ, List.getElem_cons_zero, List.setIfInBounds_toArray, List.set_cons_zero, List.set_cons_succ]
          have A6 := (Below.refl w5.heap.size w5).alloc (Nat.le_refl _) (.cells #[.int .u64 key, .int .i64 kd] 143)
          have B6 := hb5.trans (A6.mono hb5.size)
          obtain ⟨y6, z6⟩ := HV1.out _ B6
          have x6 := HX.out _ B6
          refine wpAnyH_ready (rs := [10]) (by kernel_rfl) (by simp) ?_
          refine AllReadyH.cons rfl (fun K hK => ?_) AllReadyH.nil
          go_simp
          refine hK.out _ _ y6 (fun hHeld => ?_)
          clear hK K
          try simp only [Act.put, List.getElem_toArray, List.getElem_cons_succ, List.getElem_cons_zero, List.setIfInBounds_toArray, List.set_cons_zero, List.set_cons_succ]
          refine wpAnyH_ready (rs := [11]) (by kernel_rfl) (by simp) ?_
          refine AllReadyH.cons rfl (fun K hK => ?_) AllReadyH.nil
          refine step_append_rows rfl (.tmp 30) (.tmp 39) 86 rfl 143 (.agg #[.int .u64 0, .int .i64 0]) 2 16 Try.underlying86 li_info rfl (by decide) sv j (flat encI (S.take j)) rfl x6.1 (.slice (some ⟨w5.heap.size, 0, none⟩) 1 1) 1 [.int .u64 key, .int .i64 kd] rfl (il_lit w5 key kd) one_kk HM1.out HM2.out ?_
          intro y7 w7 r1 r2 r3
          obtain ⟨a7, cp7, rfl⟩ := row_form r1
          obtain ⟨t1, t2, t3, t4, t5, t6⟩ := AFT w5 hb5 _ w7 r1 r2 r3
          refine hK.out _ _ t2 (fun hHeld => ?_)
          clear hK K
          try simp only [Act.put, List.getElem_toArray, List.getElem_cons_succ, List.getElem_cons_zero, List.setIfInBounds_toArray, List.set_cons_zero, List.set_cons_succ]
          refine wpAnyH_take (i := 12) (v := ?vav12) rfl (by kernel_rfl) (by kernel_rfl) (by kernel_rfl) (fun _ _ _ h => h) (Or.inl ⟨by rfl, ?hyav12⟩) (by assumption) ?restav12
          case hyav12 => intro w' hSw; (try dsimp only at hSw); go_simp; first | done | with_reducible rfl
          try simp only [Act.put, List.getElem_toArray, List.getElem_cons_succ, List.getElem_cons_zero, List.setIfInBounds_toArray, List.set_cons_zero, List.set_cons_succ]
          refine wpAnyH_ready (rs := [13]) (by kernel_rfl) (by simp) ?_
          refine AllReadyH.cons rfl (fun K hK => ?_) AllReadyH.nil
          have d1 := t1.cell 1
          have g1 := t1.frozen 1
          have l1 := t1.lt
          simp only [List.getElem?_cons_zero, List.getElem?_cons_succ] at d1
          go_simp
          refine hK.out _ _ t5 (fun hHeld => ?_)
          clear hK K
          try simp only [Act.put, List.getElem_toArray, List.getElem_cons_succ, List.getElem_cons_zero, List.setIfInBounds_toArray, List.set_cons_zero, List.set_cons_succ]
          refine wpAnyH_done (by kernel_rfl) ?_ _
          obtain ⟨u1, u2, u3, u4, u5, u6, u7⟩ := t6
          have HU1 := Go.Lib.hid u1
          have HU2 := Go.Lib.hid u2
          have HU3 := Go.Lib.hid u3
          have HU4 := Go.Lib.hid u4
          have HU5 := Go.Lib.hid u5
          have HU6 := Go.Lib.hid u6
          have HU7 := Go.Lib.hid u7
          clear u1 u2 u3 u4 u5 u6 u7 t1 t2 t3 t4 t5 r1 r2 r3 d1 g1 l1
          go_wp2_with fail
          go_roundw
          case rel => exact ⟨j + 1, _, by omega, by go_num, HU1, HU2, HU3, HU4, HU5, HU6, HU7⟩
          case measure => simp [intOf]; omega
        · go_simp
          refine HFL.out.mono ?_
          rintro e w5 ⟨rfl, hb5⟩
          obtain ⟨y5, z5⟩ := HV1.out w5 hb5
          have x5 := HX.out w5 hb5
          go_wp2_with fail
          refine hK.out _ _ y5 (fun hHeld => ?_)
          clear hK K
          try simp only [Act.put, List.getElem_toArray, List.getElem_cons_succ, List.getElem_cons_zero, List.setIfInBounds_toArray, List.set_cons_zero, List.set_cons_succ]
          refine wpAnyH_take (i := 9) (v := ?vay9) rfl (by kernel_rfl) (by kernel_rfl) (by kernel_rfl) (fun _ _ _ h => h) (Or.inl ⟨by rfl, ?hyay9⟩) (by assumption) ?restay9
          case hyay9 => intro w' hSw; (try dsimp only at hSw); go_simp; first | done | with_reducible rfl
          try simp only [Act.put, List.getElem_toArray, List.getElem_cons_succ, List.getElem_cons_zero, List.setIfInBounds_toArray, List.set_cons_zero, List.set_cons_succ]
          have A6 := (Below.refl w5.heap.size w5).alloc (Nat.le_refl _) (.cells #[.int .u64 key, .int .i64 kd] 143)
          have B6 := hb5.trans (A6.mono hb5.size)
          obtain ⟨y6, z6⟩ := HV1.out _ B6
          have x6 := HX.out _ B6
          refine wpAnyH_ready (rs := [1, 10]) (by kernel_rfl) (by simp) ?_
          refine AllReadyH.cons rfl (fun K hK => ?_) (AllReadyH.cons rfl (fun K hK => ?_) AllReadyH.nil)
          · go_simp
            refine hK.out _ _ y5 (fun hHeld => ?_)
            clear hK K
            try simp only [Act.put, List.getElem_toArray, List.getElem_cons_succ, List.getElem_cons_zero, List.setIfInBounds_toArray, List.set_cons_zero, List.set_cons_succ]
            refine wpAnyH_ready (rs := [10]) (by kernel_rfl) (by simp) ?_
            refine AllReadyH.cons rfl (fun K hK => ?_) AllReadyH.nil
            go_simp
            refine hK.out _ _ y6 (fun hHeld => ?_)
            clear hK K
            try simp only [Act.put, List.getElem_toArray, List.getElem_cons_succ, List.getElem_cons_zero, List.setIfInBounds_toArray, List.set_cons_zero, List.set_cons_succ]
            refine wpAnyH_ready (rs := [11]) (by kernel_rfl) (by simp) ?_
            refine AllReadyH.cons rfl (fun K hK => ?_) AllReadyH.nil
            refine step_append_rows rfl (.tmp 30) (.tmp 39) 86 rfl 143 (.agg #[.int .u64 0, .int .i64 0]) 2 16 Try.underlying86 li_info rfl (by decide) sv j (flat encI (S.take j)) rfl x6.1 (.slice (some ⟨w5.heap.size, 0, none⟩) 1 1) 1 [.int .u64 key, .int .i64 kd] rfl (il_lit w5 key kd) one_kk HM1.out HM2.out ?_
            intro y7 w7 r1 r2 r3
            obtain ⟨a7, cp7, rfl⟩ := row_form r1
            obtain ⟨t1, t2, t3, t4, t5, t6⟩ := AFT w5 hb5 _ w7 r1 r2 r3
            refine hK.out _ _ t2 (fun hHeld => ?_)
            clear hK K
            try simp only [Act.put, List.getElem_toArray, List.getElem_cons_succ, List.getElem_cons_zero, List.setIfInBounds_toArray, List.set_cons_zero, List.set_cons_succ]
            refine wpAnyH_take (i := 12) (v := ?vaw12) rfl (by kernel_rfl) (by kernel_rfl) (by kernel_rfl) (fun _ _ _ h => h) (Or.inl ⟨by rfl, ?hyaw12⟩) (by assumption) ?restaw12
            case hyaw12 => intro w' hSw; (try dsimp only at hSw); go_simp; first | done | with_reducible rfl
            try simp only [Act.put, List.getElem_toArray, List.getElem_cons_succ, List.getElem_cons_zero, List.setIfInBounds_toArray, List.set_cons_zero, List.set_cons_succ]
            refine wpAnyH_ready (rs := [13]) (by kernel_rfl) (by simp) ?_
            refine AllReadyH.cons rfl (fun K hK => ?_) AllReadyH.nil
            have d1 := t1.cell 1
            have g1 := t1.frozen 1
            have l1 := t1.lt
            simp only [List.getElem?_cons_zero, List.getElem?_cons_succ] at d1
            go_simp
            refine hK.out _ _ t5 (fun hHeld => ?_)
            clear hK K
            try simp only [Act.put, List.getElem_toArray, List.getElem_cons_succ, List.getElem_cons_zero, List.setIfInBounds_toArray, List.set_cons_zero, List.set_cons_succ]
            refine wpAnyH_done (by kernel_rfl) ?_ _
            obtain ⟨u1, u2, u3, u4, u5, u6, u7⟩ := t6
            have HU1 := Go.Lib.hid u1
            have HU2 := Go.Lib.hid u2
            have HU3 := Go.Lib.hid u3
            have HU4 := Go.Lib.hid u4
            have HU5 := Go.Lib.hid u5
            have HU6 := Go.Lib.hid u6
            have HU7 := Go.Lib.hid u7
            clear u1 u2 u3 u4 u5 u6 u7 t1 t2 t3 t4 t5 r1 r2 r3 d1 g1 l1
            go_wp2_with fail
            go_roundw
            case rel => exact ⟨j + 1, _, by omega, by go_num, HU1, HU2, HU3, HU4, HU5, HU6, HU7⟩
            case measure => simp [intOf]; omega
          · go_simp
            refine hK.out _ _ y6 (fun hHeld => ?_)
            clear hK K
            try simp only [Act.put, List.getElem_toArray, List.getElem_cons_succ, List.getElem_cons_zero, List.setIfInBounds_toArray, List.set_cons_zero, List.set_cons_succ]
            refine wpAnyH_ready (rs := [1]) (by kernel_rfl) (by simp) ?_
            refine AllReadyH.cons rfl (fun K hK => ?_) AllReadyH.nil
            go_simp
            refine hK.out _ _ y6 (fun hHeld => ?_)
            clear hK K
            try simp only [Act.put, List.getElem_toArray, List.getElem_cons_succ, List.getElem_cons_zero, List.setIfInBounds_toArray, List.set_cons_zero, List.set_cons_succ]
            refine wpAnyH_ready (rs := [11]) (by kernel_rfl) (by simp) ?_
            refine AllReadyH.cons rfl (fun K hK => ?_) AllReadyH.nil
            refine step_append_rows rfl (.tmp 30) (.tmp 39) 86 rfl 143 (.agg #[.int .u64 0, .int .i64 0]) 2 16 Try.underlying86 li_info rfl (by decide) sv j (flat encI (S.take j)) rfl x6.1 (.slice (some ⟨w5.heap.size, 0, none⟩) 1 1) 1 [.int .u64 key, .int .i64 kd] rfl (il_lit w5 key kd) one_kk HM1.out HM2.out ?_
            intro y7 w7 r1 r2 r3
            obtain ⟨a7, cp7, rfl⟩ := row_form r1
            obtain ⟨t1, t2, t3, t4, t5, t6⟩ := AFT w5 hb5 _ w7 r1 r2 r3
            refine hK.out _ _ t2 (fun hHeld => ?_)
            clear hK K
            try simp only [Act.put, List.getElem_toArray, List.getElem_cons_succ, List.getElem_cons_zero, List.setIfInBounds_toArray, List.set_cons_zero, List.set_cons_succ]
            refine wpAnyH_take (i := 12) (v := ?vax12) rfl (by kernel_rfl) (by kernel_rfl) (by kernel_rfl) (fun _ _ _ h => h) (Or.inl ⟨by rfl, ?hyax12⟩) (by assumption) ?restax12
            case hyax12 => intro w' hSw; (try dsimp only at hSw); go_simp; first | done | with_reducible rfl
            try simp only [Act.put, List.getElem_toArray, List.getElem_cons_succ, List.getElem_cons_zero, List.setIfInBounds_toArray, List.set_cons_zero, List.set_cons_succ]
            refine wpAnyH_ready (rs := [13]) (by kernel_rfl) (by simp) ?_
            refine AllReadyH.cons rfl (fun K hK => ?_) AllReadyH.nil
            have d1 := t1.cell 1
            have g1 := t1.frozen 1
            have l1 := t1.lt
            simp only [List.getElem?_cons_zero, List.getElem?_cons_succ] at d1
            go_simp
            refine hK.out _ _ t5 (fun hHeld => ?_)
            clear hK K
            try simp only [Act.put, List.getElem_toArray, List.getElem_cons_succ, List.getElem_cons_zero, List.setIfInBounds_toArray, List.set_cons_zero, List.set_cons_succ]
            refine wpAnyH_done (by kernel_rfl) ?_ _
            obtain ⟨u1, u2, u3, u4, u5, u6, u7⟩ := t6
            have HU1 := Go.Lib.hid u1
            have HU2 := Go.Lib.hid u2
            have HU3 := Go.Lib.hid u3
            have HU4 := Go.Lib.hid u4
            have HU5 := Go.Lib.hid u5
            have HU6 := Go.Lib.hid u6
            have HU7 := Go.Lib.hid u7
            clear u1 u2 u3 u4 u5 u6 u7 t1 t2 t3 t4 t5 r1 r2 r3 d1 g1 l1
            go_wp2_with fail
            go_roundw
            case rel => exact ⟨j + 1, _, by omega, by go_num, HU1, HU2, HU3, HU4, HU5, HU6, HU7⟩
            case measure => simp [intOf]; omega
      · have e : j = S.length := by omega
        subst e
        rw [List.take_length] at hil
        have bb := hbb.out
        obtain ⟨asl, csl, rfl⟩ := row_form hil.out
        have d0 := bb.cell 0
        have d1 := bb.cell 1
        have d2 := bb.cell 2
        have l3 := bb.lt
        have z0 := h00.out.cell 0
        have z1 := h00.out.cell 1
        have z2 := h00.out.cell 2
        have f0 := h00.out.frozen 0
        have f1 := h00.out.frozen 1
        have f2 := h00.out.frozen 2
        have l0 := h00.out.lt
        simp only [List.getElem?_cons_zero, List.getElem?_cons_succ] at d0 d1 d2 z0 z1 z2
        obtain ⟨aq, cq, hqe⟩ := hvq.out.form
        subst hqe
        clear bb
        go_wp2_with fail
        refine bodyPost_ret (v := .agg #[.int .i64 c, .slice asl S.length csl, .slice aq q.length cq]) (by simp [results, Try.results83, go_sem, z0, z1, z2]) rfl ⟨_, _, rfl, ?_, ?_, ?_⟩
        · refine Row.frame hil.out (own := fun k => k = w.heap.size) (by repeat' (first | refine Fr.setEq ?_ ?_ _ | exact Fr.refl _ _ | rfl)) (fun b hb e => ?_)
          obtain ⟨_, cs, h⟩ := Row.lt hil.out hb
          subst e
          exact h.ne h00.out (by decide) rfl
        · refine Row.frame hvq.out (own := fun k => k = w.heap.size) (by repeat' (first | refine Fr.setEq ?_ ?_ _ | exact Fr.refl _ _ | rfl)) (fun b hb e => ?_)
          obtain ⟨_, cs, h⟩ := Row.lt hvq.out hb
          subst e
          exact h.ne h00.out (by decide) rfl
        · repeat' (first | refine below_set ?_ ?_ _ | exact hbw.out | exact Nat.le_refl _)
end
end Go.Proofs.Ytlakojncjldpbaa
