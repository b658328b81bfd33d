/- ElruLooks: the walk. -/
import Derived.Test.YtlakojncjldpbaaElaw2
namespace Go.Proofs.Ytlakojncjldpbaa
open Go.RowKit Hop
set_option linter.unusedVariables false
set_option linter.unusedSimpArgs false
set_option maxRecDepth 100000
set_option maxHeartbeats 400000 in
theorem r8keys_any (c : Int) (v : Value) (w : World) : Calls Try.prog 31 #[.agg #[.int .i64 c, v]] w fun e w' => e = .returned v ∧ Below w.heap.size w w' := by
  have HB := Go.Lib.hid ((Below.refl w.heap.size w).alloc (Nat.le_refl _) (.cells #[.int .i64 c, v] 28))
  go_enter Try.func31, Try.ntmps31
  go_wp2_with fail
  go_ret
  exact ⟨rfl, HB.out⟩
set_option maxHeartbeats 400000 in
theorem r8ghosts_any (c : Int) (v : Value) (w : World) : Calls Try.prog 35 #[.agg #[.int .i64 c, v]] w fun e w' => e = .returned (.int .i64 0) ∧ Below w.heap.size w w' := by
  have HB := Go.Lib.hid ((Below.refl w.heap.size w).alloc (Nat.le_refl _) (.cells #[.int .i64 c, v] 28))
  go_enter Try.func35, Try.ntmps35
  go_wp2_with fail
  go_ret
  exact ⟨rfl, HB.out⟩
set_option maxHeartbeats 6400000 in
theorem elooks_any (c k : Int) (v : Value) (A : List Ac) (w : World) (hc0 : 0 ≤ c) (hc1 : c < 256) (hk0 : 0 ≤ k) (hk1 : k < 18446744073709551616) (h : AL w v A) :
    Calls Try.prog 5 #[.int .u8 c, v, .int .u64 k] w fun e w' => e = .returned (.bool true) ∧ Below w.heap.size w w' := by
  have HAL := Go.Lib.hid h
  obtain ⟨a, cap, rfl, hm, hok, hcell⟩ := h
  have HOK := Go.Lib.hid hok
  clear hok hcell
  have hcm : 0 ≤ c % 12 ∧ c % 12 < 12 := by omega
  obtain ⟨hcm0, hcm1⟩ := hcm
  have HC : Hid (capF (1 + c % 12) = 1 + c % 12) := Go.Lib.hid (capF_id (by omega))
  unfold maxLen at hm
  by_cases hlen : A.length ≤ 60
  · go_enter Try.func5, Try.ntmps5
    go_wp2_with fail
    refine (awake_any _).mono ?_
    rintro e w1 ⟨rfl, hb1⟩
    have HB1 := Go.Lib.hid hb1
    clear hb1
    go_wp2_with fail
    refine (enew_any _ _).mono ?_
    rintro e w2 ⟨px, O2, rfl, hE2, ho2, hb2⟩
    have HE2 := Go.Lib.hid hE2
    have HO2 := Go.Lib.hid ho2
    have HB2 := Go.Lib.hid hb2
    clear hE2 ho2 hb2
    go_wp2_with fail
    refine (r8new_any _ _).mono ?_
    rintro e w3 ⟨rfl, hb3⟩
    have HB3 := Go.Lib.hid hb3
    clear hb3
    go_wp2_with fail
    have HC7 : Hid (Ela (w3.alloc (.cells #[.int .i64 (capF (1 + c % 12)), .slice none 0 0] 28)) px O2 [] (capF (1 + c % 12)) 0) := Go.Lib.hid ((HE2.out.keep HB3.out).keep ((Below.refl _ _).alloc (Nat.le_refl _) _))
    have sz1 := HB1.out.size
    have sz2 := HB2.out.size
    have sz3 := HB3.out.size
    have HCH : Hid (Chg (fun _ => False) O2 w (w3.alloc (.cells #[.int .i64 (capF (1 + c % 12)), .slice none 0 0] 28))) := Go.Lib.hid (by
      have c1 : Chg (fun _ => False) O2 w w2 := ⟨Fr.of_below (HB1.out.trans (HB2.out.mono sz1)), fun k hk => .inr (by have := HO2.out k hk; omega)⟩
      exact (c1.below HB3.out).below ((Below.refl _ _).alloc (Nat.le_refl _) _))
    rw [HC.out] at HC7 HCH
    rw [HC.out]
    have hsok : LS.ok ⟨1 + c % 12, []⟩ := ⟨by show 1 ≤ 1 + c % 12; omega, by show 1 + c % 12 ≤ 14; omega⟩
    have HSOK := Go.Lib.hid hsok
    have hwB : w.heap.size ≤ w3.heap.size := by omega
    clear hsok
    go_loopw [10] (fun i wr => ∃ (j : Nat) (s : LS) (O : Nat → Prop) (p : Nat) (v7 : Value), j ≤ A.length ∧ i = .int .i64 j ∧ s.ok ∧ p ≤ 14 ∧ Ela wr px O s.l s.c p ∧ Blk wr w3.heap.size [.int .i64 s.c, v7] 28 ∧ KL wr v7 s.l ∧ Chg (fun _ => False) O w wr) (fun i _ => A.length - (intOf i).toNat)
    case atStart => exact ⟨0, ⟨1 + c % 12, []⟩, O2, 0, .slice none 0 0, by omega, rfl, HSOK.out, by omega, HC7.out, Blk.new0 w3 _ _, KL.nil _, HCH.out⟩
    case round =>
      obtain ⟨j, s, O, p, v7, hj, rfl, hs, hp, hE, hb7, hk7, hch⟩ := hrel
      by_cases hlt : j < A.length
      · obtain ⟨x, hx⟩ : ∃ x, A[j]? = some x := ⟨A[j], List.getElem?_eq_getElem hlt⟩
        have hxo : x.ok := HOK.out x (List.mem_of_getElem? hx)
        have hW := hch.fr.below
        obtain ⟨a', cap', e1, _, _, hcl⟩ := HAL.out.keep hW
        injection e1 with e2 e3 e4
        subst e2; subst e4
        obtain ⟨ad, rfl, g1, g2, g3, g4⟩ := hcl j x hx
        have HXO := Go.Lib.hid hxo
        have HS := Go.Lib.hid hs
        have HE := Go.Lib.hid hE
        have HB7 := Go.Lib.hid hb7
        have HK7 := Go.Lib.hid hk7
        have HCH := Go.Lib.hid hch
        have HDO := Go.Lib.hid (do_any px s x wr hxo ⟨hs.lo, by have := hs.hi; omega⟩ (by omega) hE)
        have gab : (ad.add (j * 3)).block < wr.heap.size := by rw [add_block]; exact g1
        have HX := Go.Lib.hid hx
        clear hx hxo hW hcl hs hE hb7 hk7 hch e3
        go_wp2_with fail
        refine HDO.out.mono ?_
        rintro e w4 ⟨vo, O', p', rfl, hko, hE', hC', hp'⟩
        have hb7 := hC'.blk (HE.out.typ HB7.out (by decide) (by decide)) HB7.out
        have hk7 : KL w4 v7 s.l := Row.frame HK7.out hC'.fr (HE.out.kl HK7.out)
        have hch := HCH.out.trans hC'
        have hsl : s.l.length < 50000 := by have := HE.out.len; omega
        have g1' : (ad.add (j * 3)).block < w4.heap.size := by have := hC'.fr.size; omega
        have q4 : ∀ W', Below w4.heap.size w4 W' → (W'.cell? ⟨w3.heap.size, 0, none⟩ = some (.int .i64 s.c) ∧ W'.cell? ⟨w3.heap.size, 1, none⟩ = some v7 ∧ W'.cell? (ad.add (j * 3)) = some (.int .u8 x.kind) ∧ W'.cell? ⟨(ad.add (j * 3)).block, (ad.add (j * 3)).off + 1, none⟩ = some (.int .u64 x.key) ∧ W'.cell? ⟨(ad.add (j * 3)).block, (ad.add (j * 3)).off + 2, none⟩ = some (.int .u16 x.n)) := by
          intro W' hb
          have hW := (hch.fr.below).trans (hb.mono hch.fr.size)
          obtain ⟨a', cap', e1, _, _, hcl⟩ := HAL.out.keep hW
          injection e1 with e2 e3 e4
          subst e4
          obtain ⟨ad', e5, _, f2, f3, f4⟩ := hcl j x HX.out
          rw [← e2] at e5
          injection e5 with e5
          subst e5
          exact ⟨(hb7.keep hb).cell 0, (hb7.keep hb).cell 1, f2, f3, f4⟩
        have S1 := fun W' (hb : Below w4.drew.heap.size w4.drew W') => q4 W' ((Below.refl _ _).drew.trans hb)
        have S3 := fun W' u1 u2 (hb : Below w4.drew.heap.size w4.drew W') => S1 ((W'.setCell ⟨w4.heap.size, 0, none⟩ u1).setCell ⟨w4.heap.size, 1, none⟩ u2) (below_set (below_set hb (Nat.le_refl _) u1) (Nat.le_refl _) u2)
        have HS1 := Go.Lib.hid S1
        have HS3 := Go.Lib.hid S3
        have HS0 := Go.Lib.hid (S1 _ (Below.refl _ _))
        have HRD := Go.Lib.hid (fun W (hb : Below w4.drew.heap.size w4.drew W) => r8do_any s v7 x W HXO.out ⟨HS.out.lo, by have := HS.out.hi; omega⟩ hsl (hk7.keep ((Below.refl _ _).drew.trans hb)))
        have HE4 := Go.Lib.hid hE'
        have HC4 := Go.Lib.hid hC'
        have HP4 := Go.Lib.hid hp'
        have HCH4 := Go.Lib.hid hch
        have HKO := Go.Lib.hid hko
        have HB74 := Go.Lib.hid hb7
        have l74 := hb7.lt
        clear q4 S1 S3 hb7 hk7 hch hko hE' hC' hp' g2 g3 g4 g1 gab
        go_wp2_with fail
        go_region_held3 (fun W' => W'.cell? ⟨w3.heap.size, 0, none⟩ = some (.int .i64 s.c) ∧ W'.cell? ⟨w3.heap.size, 1, none⟩ = some v7 ∧ W'.cell? (ad.add (j * 3)) = some (.int .u8 x.kind) ∧ W'.cell? ⟨(ad.add (j * 3)).block, (ad.add (j * 3)).off + 1, none⟩ = some (.int .u64 x.key) ∧ W'.cell? ⟨(ad.add (j * 3)).block, (ad.add (j * 3)).off + 2, none⟩ = some (.int .u16 x.n))
          (first | with_reducible exact HS1.out _ ((Below.refl _ _).alloc (Nat.le_refl _) _) | with_reducible exact HS1.out _ hb5' | with_reducible exact HS1.out _ (hb5'.alloc hb5'.size _) | with_reducible exact HS3.out _ _ _ hb5' | exact HS0.out)
          (first | (go_at_call 23; refine (HRD.out _ (by first | exact Below.refl _ _ | exact (Below.refl _ _).alloc (Nat.le_refl _) _)).mono ?_; rintro e w5 ⟨v', vo', rfl, hk5, hko5, hb5⟩; obtain ⟨a5, cap5, rfl⟩ := hk5.form; (have hb5' : Below w4.drew.heap.size w4.drew w5 := by first | exact hb5 | exact ((Below.refl _ _).alloc (Nat.le_refl _) _).trans (hb5.mono (by simp))); (try (have b10 := (Blk.new0 w4.drew [.int .i64 0, .slice none 0 0] 28).keep hb5; have d0 := b10.cell 0; have d1 := b10.cell 1; have y0 := b10.frozen 0; have y1 := b10.frozen 1; simp only [List.getElem?_cons_zero, List.getElem?_cons_succ, World.size_drew] at d0 d1 y0 y1; have l10 := b10.lt; simp only [World.size_drew] at l10))))
        · have hk5a := hk5
          have B56 : Below w4.heap.size w4 w5 := (Below.refl _ _).drew.trans hb5'
          obtain ⟨W6, hW6⟩ : ∃ W6, W6 = w5.alloc (Obj.cells #[Value.int IntKind.i64 (doS s x).fst.c, Value.slice a5 (doS s x).fst.l.length cap5] 28) := ⟨_, rfl⟩
          have hB6 : Below w4.heap.size w4 W6 := by rw [hW6]; exact B56.alloc B56.size _
          have b10 : Blk W6 w5.heap.size [.int .i64 (doS s x).fst.c, .slice a5 (doS s x).fst.l.length cap5] 28 := by rw [hW6]; exact Blk.new0 w5 _ _
          have k6 : KL W6 (.slice a5 (doS s x).fst.l.length cap5) (doS s x).fst.l := by rw [hW6]; exact hk5.keep ((Below.refl _ _).alloc (Nat.le_refl _) _)
          have ko6 : KL W6 vo' (doS s x).snd := by rw [hW6]; exact hko5.keep ((Below.refl _ _).alloc (Nat.le_refl _) _)
          have hBn : w3.heap.size < w5.heap.size := by have := B56.size; omega
          rw [← hW6]
          clear hW6 hk5 hko5 hb5 hb5' hk5a B56
          generalize w5.heap.size = B10 at *
          have b7 := HB74.out.keep hB6
          have hne : w3.heap.size ≠ B10 := by omega
          have hne' : B10 ≠ w3.heap.size := hne.symm
          have d0 := b10.cell 0
          have d1 := b10.cell 1
          have d2 := b7.cell 0
          have d3 := b7.cell 1
          have y0 := b7.frozen 0
          have y1 := b7.frozen 1
          simp only [List.getElem?_cons_zero, List.getElem?_cons_succ] at d0 d1 d2 d3
          have l7 := b7.lt
          have l10 := b10.lt
          have n7 := k6.ne b7 (by decide)
          have m7 := ko6.ne b7 (by decide)
          have E6 := HE4.out.keep hB6
          have ko := HKO.out.keep hB6
          have t7 := E6.typ b7 (by decide) (by decide)
          obtain ⟨W7, hW7⟩ : ∃ W7, W7 = (W6.setCell ⟨w3.heap.size, 0, none⟩ (.int .i64 (doS s x).fst.c)).setCell ⟨w3.heap.size, 1, none⟩ (.slice a5 (doS s x).fst.l.length cap5) := ⟨_, rfl⟩
          have F7 : Fr (fun k => k = w3.heap.size) W6 W7 := by rw [hW7]; exact ((Fr.refl (fun k => k = w3.heap.size) W6).setEq rfl _).setEq rfl _
          have b7' : Blk W7 w3.heap.size [.int .i64 (doS s x).fst.c, .slice a5 (doS s x).fst.l.length cap5] 28 := by rw [hW7]; exact (b7.set 0 _).set 1 _
          have k7 : KL W7 (.slice a5 (doS s x).fst.l.length cap5) (doS s x).fst.l := by rw [hW7]; exact (k6.set_ne n7 _).set_ne n7 _
          have ko7 : KL W7 vo' (doS s x).snd := by rw [hW7]; exact (ko6.set_ne m7 _).set_ne m7 _
          have E7 : Ela W7 px O' (doS s x).fst.l (doS s x).fst.c p' := by
            obtain ⟨ps, O1, e1, e2, e3, e4⟩ := E6
            refine ⟨ps, O1, F7.blk (fun e => t7 (by rw [e4]; exact .inl e.symm)) e1, e2.frame F7 (fun k hk e => t7 (by rw [e4]; exact .inr (e ▸ hk))), e3, e4⟩
          have kv7 : KL W7 vo (doS s x).snd := Row.frame ko F7 (fun b hb e => ko.ne b7 (by decide) b hb e)
          have ch7 : Chg (fun _ => False) O' w W7 := by
            have q := HCH4.out.below hB6
            exact ⟨q.fr.trans F7 (fun i e => .inr (by show w.heap.size ≤ i; rw [e]; exact hwB)), q.own⟩
          have HB7' := Go.Lib.hid b7'
          have HK7' := Go.Lib.hid k7
          have HKO7 := Go.Lib.hid ko7
          have HE7 := Go.Lib.hid E7
          have HKV7 := Go.Lib.hid kv7
          have HCH7 := Go.Lib.hid ch7
          have HW7 := Go.Lib.hid hW7
          clear hW7 b7' k7 ko7 E7 kv7 ch7 F7 t7 ko E6 n7 m7 b7 b10 k6 ko6 hB6
          go_wp2_with fail
          have hs' : (doS s x).fst.ok := doS_ok HS.out HXO.out
          have hpp : p' ≤ 14 := by have := HP4.out; have := hs'.hi; omega
          have HS' := Go.Lib.hid hs'
          clear hs'
          rw [← HW7.out]
          go_wp2_with fail
          go_roundw
          case rel => exact ⟨j + 1, (doS s x).fst, O', p', _, by omega, by go_num, HS'.out, hpp, HE7.out, HB7'.out, HK7'.out, HCH7.out⟩
          case measure => simp [intOf]; omega
        · have hk5a := hk5
          have B56 : Below w4.heap.size w4 w5 := (Below.refl _ _).drew.trans hb5'
          have n10 := hk5.ne b10 (by decide)
          have m10 := hko5.ne b10 (by decide)
          obtain ⟨W6, hW6⟩ : ∃ W6, W6 = (w5.setCell { block := w4.heap.size, off := 0 } (Value.int IntKind.i64 (doS s x).fst.c)).setCell { block := w4.heap.size, off := 1 } (Value.slice a5 (doS s x).fst.l.length cap5) := ⟨_, rfl⟩
          have hB6 : Below w4.heap.size w4 W6 := by rw [hW6]; exact below_set (below_set B56 (Nat.le_refl _) _) (Nat.le_refl _) _
          have hb10 : Blk W6 w4.heap.size [.int .i64 (doS s x).fst.c, .slice a5 (doS s x).fst.l.length cap5] 28 := by rw [hW6]; exact (b10.set 0 _).set 1 _
          have k6 : KL W6 (.slice a5 (doS s x).fst.l.length cap5) (doS s x).fst.l := by rw [hW6]; exact (hk5.set_ne n10 _).set_ne n10 _
          have ko6 : KL W6 vo' (doS s x).snd := by rw [hW6]; exact (hko5.set_ne m10 _).set_ne m10 _
          have hBn : w3.heap.size < w4.heap.size := l74
          rw [← hW6]
          clear hW6 hk5 hko5 hb5 hb5' hk5a B56 b10 d0 d1 y0 y1 l10 n10 m10
          have b10 := hb10
          clear hb10
          generalize hBB : w4.heap.size = B10 at b10 hBn ⊢
          clear hBB
          have b7 := HB74.out.keep hB6
          have hne : w3.heap.size ≠ B10 := by omega
          have hne' : B10 ≠ w3.heap.size := hne.symm
          have d0 := b10.cell 0
          have d1 := b10.cell 1
          have d2 := b7.cell 0
          have d3 := b7.cell 1
          have y0 := b7.frozen 0
          have y1 := b7.frozen 1
          simp only [List.getElem?_cons_zero, List.getElem?_cons_succ] at d0 d1 d2 d3
          have l7 := b7.lt
          have l10 := b10.lt
          have n7 := k6.ne b7 (by decide)
          have m7 := ko6.ne b7 (by decide)
          have E6 := HE4.out.keep hB6
          have ko := HKO.out.keep hB6
          have t7 := E6.typ b7 (by decide) (by decide)
          obtain ⟨W7, hW7⟩ : ∃ W7, W7 = (W6.setCell ⟨w3.heap.size, 0, none⟩ (.int .i64 (doS s x).fst.c)).setCell ⟨w3.heap.size, 1, none⟩ (.slice a5 (doS s x).fst.l.length cap5) := ⟨_, rfl⟩
          have F7 : Fr (fun k => k = w3.heap.size) W6 W7 := by rw [hW7]; exact ((Fr.refl (fun k => k = w3.heap.size) W6).setEq rfl _).setEq rfl _
          have b7' : Blk W7 w3.heap.size [.int .i64 (doS s x).fst.c, .slice a5 (doS s x).fst.l.length cap5] 28 := by rw [hW7]; exact (b7.set 0 _).set 1 _
          have k7 : KL W7 (.slice a5 (doS s x).fst.l.length cap5) (doS s x).fst.l := by rw [hW7]; exact (k6.set_ne n7 _).set_ne n7 _
          have ko7 : KL W7 vo' (doS s x).snd := by rw [hW7]; exact (ko6.set_ne m7 _).set_ne m7 _
          have E7 : Ela W7 px O' (doS s x).fst.l (doS s x).fst.c p' := by
            obtain ⟨ps, O1, e1, e2, e3, e4⟩ := E6
            refine ⟨ps, O1, F7.blk (fun e => t7 (by rw [e4]; exact .inl e.symm)) e1, e2.frame F7 (fun k hk e => t7 (by rw [e4]; exact .inr (e ▸ hk))), e3, e4⟩
          have kv7 : KL W7 vo (doS s x).snd := Row.frame ko F7 (fun b hb e => ko.ne b7 (by decide) b hb e)
          have ch7 : Chg (fun _ => False) O' w W7 := by
            have q := HCH4.out.below hB6
            exact ⟨q.fr.trans F7 (fun i e => .inr (by show w.heap.size ≤ i; rw [e]; exact hwB)), q.own⟩
          have HB7' := Go.Lib.hid b7'
          have HK7' := Go.Lib.hid k7
          have HKO7 := Go.Lib.hid ko7
          have HE7 := Go.Lib.hid E7
          have HKV7 := Go.Lib.hid kv7
          have HCH7 := Go.Lib.hid ch7
          have HW7 := Go.Lib.hid hW7
          clear hW7 b7' k7 ko7 E7 kv7 ch7 F7 t7 ko E6 n7 m7 b7 b10 k6 ko6 hB6
          go_wp2_with fail
          have hs' : (doS s x).fst.ok := doS_ok HS.out HXO.out
          have hpp : p' ≤ 14 := by have := HP4.out; have := hs'.hi; omega
          have HS' := Go.Lib.hid hs'
          clear hs'
          rw [← HW7.out]
          go_wp2_with fail
          go_roundw
          case rel => exact ⟨j + 1, (doS s x).fst, O', p', _, by omega, by go_num, HS'.out, hpp, HE7.out, HB7'.out, HK7'.out, HCH7.out⟩
          case measure => simp [intOf]; omega
      · have e : j = A.length := by omega
        subst e
        have HS := Go.Lib.hid hs
        have HE := Go.Lib.hid hE
        have HB7 := Go.Lib.hid hb7
        have HK7 := Go.Lib.hid hk7
        have HCH := Go.Lib.hid hch
        obtain ⟨a7, cap7, rfl⟩ := hk7.form
        have HRK := Go.Lib.hid (r8keys_any s.c (.slice a7 s.l.length cap7) wr)
        have c0 := hb7.cell 0
        have c1 := hb7.cell 1
        simp only [List.getElem?_cons_zero, List.getElem?_cons_succ] at c0 c1
        have lx7 := hb7.lt
        clear hs hE hb7 hk7 hch
        go_wp2_with fail
        refine HRK.out.mono ?_
        rintro e w5 ⟨rfl, hb5⟩
        have HB5 := Go.Lib.hid hb5
        have S2 := fun W' (hb : Below w5.drew.heap.size w5.drew W') =>
          have q : Below wr.heap.size wr W' := hb5.trans (((Below.refl _ _).drew.trans hb).mono hb5.size)
          (⟨(HB7.out.keep q).cell 0, (HB7.out.keep q).cell 1⟩ : W'.cell? ⟨w3.heap.size, 0, none⟩ = some (.int .i64 s.c) ∧ W'.cell? ⟨w3.heap.size, 1, none⟩ = some (.slice a7 s.l.length cap7))
        have HS2 := Go.Lib.hid S2
        have HS20 := Go.Lib.hid (S2 _ (Below.refl _ _))
        have HQ := Go.Lib.hid (fun W' (hb : Below w5.drew.heap.size w5.drew W') => hb5.trans (((Below.refl _ _).drew.trans hb).mono hb5.size))
        have HEK := Go.Lib.hid (ekeys_any px w5.drew (HE.out.keep (HQ.out _ (Below.refl _ _))))
        have HSM := Go.Lib.hid (fun W vk (h8 : KL W vk s.l) (hb : Below w5.drew.heap.size w5.drew W) => same_any vk _ s.l s.l W h8 (HK7.out.keep (HQ.out W hb)))
        have hdt : decide (s.l = s.l) = true := by simp
        rw [hdt] at HSM
        have HEH := Go.Lib.hid (fun W (hb : Below w5.drew.heap.size w5.drew W) => ehas_any px k W hk0 hk1 (HE.out.keep (HQ.out W hb)))
        have HRH := Go.Lib.hid (fun W (hb : Below w5.drew.heap.size w5.drew W) => has_any (.slice a7 s.l.length cap7) s.l k W (HK7.out.keep (HQ.out W hb)))
        have HRG := Go.Lib.hid (fun W => r8ghosts_any s.c (.slice a7 s.l.length cap7) W)
        clear S2 hdt hb5 c0 c1
        generalize decide (k ∈ s.l) = there at *
        go_wp2_with fail
        go_region_held3 (fun W' => W'.cell? ⟨w3.heap.size, 0, none⟩ = some (.int .i64 s.c) ∧ W'.cell? ⟨w3.heap.size, 1, none⟩ = some (.slice a7 s.l.length cap7))
          (first | with_reducible exact HS2.out _ hb4 | with_reducible exact HS2.out _ hb3 | with_reducible exact HS2.out _ hb2 | with_reducible exact HS2.out _ hb1 | exact HS20.out)
          (first | (go_at_call 30; refine HEK.out.mono ?_; rintro e u1 ⟨vk, rfl, hkk, hb1⟩) | (go_at_call 24; refine (HSM.out _ _ hkk hb1).mono ?_; rintro e u2 ⟨rfl, hb2'⟩; have hb2 := hb1.trans (hb2'.mono hb1.size)) | (go_at_call 32; refine (HEH.out _ hb2).mono ?_; rintro e u3 ⟨rfl, hb3'⟩; have hb3 := hb2.trans (hb3'.mono hb2.size)) | (go_at_call 33; refine (HRH.out _ hb3).mono ?_; rintro e u4 ⟨rfl, rfl⟩) | (go_at_call 34; refine (eghosts_any px _).mono ?_; rintro e u5 ⟨rfl, rfl⟩) | (go_at_call 35; refine (HRG.out _).mono ?_; rintro e u6 ⟨rfl, hb4'⟩; have hb4 := hb3.trans (hb4'.mono hb3.size)))
        have F := (HCH.out.below (HQ.out _ hb4)).fr
        have HF := Go.Lib.hid F.below
        clear F hb4 hb4' hb3 hb3' hb2 hb2' hb1 hkk
        go_wp2_with fail
        go_ret
        exact ⟨rfl, HF.out⟩
  · have hlb : (60 : Int) < A.length := by omega
    go_enter Try.func5, Try.ntmps5
    go_wp2_with fail
    refine (awake_any _).mono ?_
    rintro e w1 ⟨rfl, hb1⟩
    have HB1 := Go.Lib.hid hb1
    clear hb1
    go_wp2_with fail
    go_ret
    exact ⟨rfl, HB1.out⟩
end Go.Proofs.Ytlakojncjldpbaa
