/- EarcLooks: the walk. -/
import Derived.Test.YtlakojncjldpbaaAsame
namespace Go.Proofs.Ytlakojncjldpbaa
open Go.RowKit Hop
set_option linter.unusedVariables false
set_option linter.unusedSimpArgs false
set_option maxRecDepth 100000
set_option maxHeartbeats 6400000 in
theorem alooks_any (c k : Int) (v : Value) (A : List Ac) (w : World) (hc0 : 0 ≤ c) (hc1 : c < 256) (hk0 : 0 ≤ k) (hk1 : k < 18446744073709551616) (h : AL w v A) :
    Calls Try.prog 12 #[.int .u8 c, v, .int .u64 k] w fun e w' => e = .returned (.bool true) ∧ Below w.heap.size w w' := by
  have HAL := Go.Lib.hid h
  obtain ⟨a, cap, rfl, hm, hok, hcell⟩ := h
  have HOK := Go.Lib.hid hok
  clear hok hcell
  have hcm : 0 ≤ c % 12 ∧ c % 12 < 12 := by omega
  obtain ⟨hcm0, hcm1⟩ := hcm
  have HC : Hid (capF (1 + c % 12) = 1 + c % 12) := Go.Lib.hid (capF_id (by omega))
  unfold maxLen at hm
  by_cases hlen : A.length ≤ 60
  · go_enter Try.func12, Try.ntmps12
    go_wp2_with fail
    refine (aawake_any _).mono ?_
    rintro e w1 ⟨rfl, hb1⟩
    have HB1 := Go.Lib.hid hb1
    clear hb1
    go_wp2_with fail
    refine (anew_any' _ _).mono ?_
    rintro e w2 ⟨px, O2, rfl, hE2, ho2, hb2⟩
    have HE2 := Go.Lib.hid hE2
    have HO2 := Go.Lib.hid ho2
    have HB2 := Go.Lib.hid hb2
    clear hE2 ho2 hb2
    go_wp2_with fail
    refine (a11new_any _ _).mono ?_
    rintro e w3 ⟨rfl, hb3⟩
    have HB3 := Go.Lib.hid hb3
    clear hb3
    go_wp2_with fail
    have HC7 : Hid (Aca (w3.alloc (.cells #[.int .i64 (capF (1 + c % 12)), .int .i64 0, .slice none 0 0, .slice none 0 0, .slice none 0 0, .slice none 0 0] 73)) px O2 ⟨capF (1 + c % 12), 0, [], [], [], []⟩ 0) := Go.Lib.hid ((HE2.out.keep HB3.out).keep ((Below.refl _ _).alloc (Nat.le_refl _) _))
    have sz1 := HB1.out.size
    have sz2 := HB2.out.size
    have sz3 := HB3.out.size
    have HCH : Hid (Chg (fun _ => False) O2 w (w3.alloc (.cells #[.int .i64 (capF (1 + c % 12)), .int .i64 0, .slice none 0 0, .slice none 0 0, .slice none 0 0, .slice none 0 0] 73))) := Go.Lib.hid (by
      have c1 : Chg (fun _ => False) O2 w w2 := ⟨Fr.of_below (HB1.out.trans (HB2.out.mono sz1)), fun k hk => .inr (by have := HO2.out k hk; omega)⟩
      exact (c1.below HB3.out).below ((Below.refl _ _).alloc (Nat.le_refl _) _))
    rw [HC.out] at HC7 HCH
    rw [HC.out]
    have hsok : AS.ok ⟨1 + c % 12, 0, [], [], [], []⟩ := ⟨by show 1 ≤ 1 + c % 12; omega, by show 1 + c % 12 ≤ 14; omega, Int.le_refl 0, by show 0 ≤ 1 + c % 12; omega, by show ((0 : Nat) : Int) + (0 : Nat) ≤ 1 + c % 12; omega, by show ((0 : Nat) : Int) + (0 : Nat) + (0 : Nat) + (0 : Nat) ≤ 2 * (1 + c % 12); omega⟩
    have HSOK := Go.Lib.hid hsok
    have hwB : w.heap.size ≤ w3.heap.size := by omega
    clear hsok
    go_loopw [10] (fun i wr => ∃ (j : Nat) (s : AS) (O : Nat → Prop) (p : Nat) (v1 : Value) (v2 : Value) (v3 : Value) (v4 : Value), j ≤ A.length ∧ i = .int .i64 j ∧ s.ok ∧ p ≤ 28 ∧ Aca wr px O s p ∧ Blk wr w3.heap.size [.int .i64 s.c, .int .i64 s.p, v1, v2, v3, v4] 73 ∧ AT wr v1 v2 v3 v4 s ∧ Chg (fun _ => False) O w wr) (fun i _ => A.length - (intOf i).toNat)
    case atStart => exact ⟨0, ⟨1 + c % 12, 0, [], [], [], []⟩, O2, 0, .slice none 0 0, .slice none 0 0, .slice none 0 0, .slice none 0 0, by omega, rfl, HSOK.out, by omega, HC7.out, Blk.new0 w3 _ _, ⟨KL.nil _, KL.nil _, KL.nil _, KL.nil _⟩, HCH.out⟩
    case round =>
      obtain ⟨j, s, O, p, v1, v2, v3, v4, hj, rfl, hs, hp, hE, hb7, hk7, hch⟩ := hrel
      by_cases hlt : j < A.length
      · obtain ⟨x, hx⟩ : ∃ x, A[j]? = some x := ⟨A[j], List.getElem?_eq_getElem hlt⟩
        have hxo : x.ok := HOK.out x (List.mem_of_getElem? hx)
        have hW := hch.fr.below
        obtain ⟨a', cap', e1, _, _, hcl⟩ := HAL.out.keep hW
        injection e1 with e2 e3 e4
        subst e2; subst e4
        obtain ⟨ad, rfl, g1, g2, g3, g4⟩ := hcl j x hx
        have HXO := Go.Lib.hid hxo
        have HS := Go.Lib.hid hs
        have HE := Go.Lib.hid hE
        have HB7 := Go.Lib.hid hb7
        have HK7 := Go.Lib.hid hk7
        have HCH := Go.Lib.hid hch
        have HDO := Go.Lib.hid (ado_any px s x wr hxo hs (by omega) hE)
        have gab : (ad.add (j * 3)).block < wr.heap.size := by rw [add_block]; exact g1
        have HX := Go.Lib.hid hx
        clear hx hxo hW hcl hs hE hb7 hk7 hch e3
        go_wp2_with fail
        refine HDO.out.mono ?_
        rintro e w4 ⟨vo, O', p', rfl, hko, hE', hC', hp'⟩
        have hb7 := hC'.blk (HE.out.typ HB7.out (by decide) (by decide)) HB7.out
        have hk7 : AT w4 v1 v2 v3 v4 s := ⟨Row.frame HK7.out.t hC'.fr (HE.out.kl HK7.out.t), Row.frame HK7.out.u hC'.fr (HE.out.kl HK7.out.u), Row.frame HK7.out.b hC'.fr (HE.out.kl HK7.out.b), Row.frame HK7.out.d hC'.fr (HE.out.kl HK7.out.d)⟩
        have hch := HCH.out.trans hC'
        have g1' : (ad.add (j * 3)).block < w4.heap.size := by have := hC'.fr.size; omega
        have q4 : ∀ W', Below w4.heap.size w4 W' → (W'.cell? ⟨w3.heap.size, 0, none⟩ = some (.int .i64 s.c) ∧ W'.cell? ⟨w3.heap.size, 1, none⟩ = some (.int .i64 s.p) ∧ W'.cell? ⟨w3.heap.size, 2, none⟩ = some v1 ∧ W'.cell? ⟨w3.heap.size, 3, none⟩ = some v2 ∧ W'.cell? ⟨w3.heap.size, 4, none⟩ = some v3 ∧ W'.cell? ⟨w3.heap.size, 5, none⟩ = some v4 ∧ W'.cell? (ad.add (j * 3)) = some (.int .u8 x.kind) ∧ W'.cell? ⟨(ad.add (j * 3)).block, (ad.add (j * 3)).off + 1, none⟩ = some (.int .u64 x.key) ∧ W'.cell? ⟨(ad.add (j * 3)).block, (ad.add (j * 3)).off + 2, none⟩ = some (.int .u16 x.n)) := by
          intro W' hb
          have hW := (hch.fr.below).trans (hb.mono hch.fr.size)
          obtain ⟨a', cap', e1, _, _, hcl⟩ := HAL.out.keep hW
          injection e1 with e2 e3 e4
          subst e4
          obtain ⟨ad', e5, _, f2, f3, f4⟩ := hcl j x HX.out
          rw [← e2] at e5
          injection e5 with e5
          subst e5
          exact ⟨(hb7.keep hb).cell 0, (hb7.keep hb).cell 1, (hb7.keep hb).cell 2, (hb7.keep hb).cell 3, (hb7.keep hb).cell 4, (hb7.keep hb).cell 5, f2, f3, f4⟩
        have S1 := fun W' (hb : Below w4.drew.heap.size w4.drew W') => q4 W' ((Below.refl _ _).drew.trans hb)
        have S3 := fun W' u1 u2 u3 u4 u5 u6 (hb : Below w4.drew.heap.size w4.drew W') => S1 ((((((W'.setCell ⟨w4.heap.size, 0, none⟩ u1).setCell ⟨w4.heap.size, 1, none⟩ u2).setCell ⟨w4.heap.size, 2, none⟩ u3).setCell ⟨w4.heap.size, 3, none⟩ u4).setCell ⟨w4.heap.size, 4, none⟩ u5).setCell ⟨w4.heap.size, 5, none⟩ u6) (below_set (below_set (below_set (below_set (below_set (below_set hb (Nat.le_refl _) u1) (Nat.le_refl _) u2) (Nat.le_refl _) u3) (Nat.le_refl _) u4) (Nat.le_refl _) u5) (Nat.le_refl _) u6)
        have HS1 := Go.Lib.hid S1
        have HS3 := Go.Lib.hid S3
        have HS0 := Go.Lib.hid (S1 _ (Below.refl _ _))
        have HRD := Go.Lib.hid (fun W (hb : Below w4.drew.heap.size w4.drew W) => a11do_any s v1 v2 v3 v4 x W HXO.out HS.out (hk7.keep ((Below.refl _ _).drew.trans hb)))
        have HE4 := Go.Lib.hid hE'
        have HC4 := Go.Lib.hid hC'
        have HP4 := Go.Lib.hid hp'
        have HCH4 := Go.Lib.hid hch
        have HKO := Go.Lib.hid hko
        have HB74 := Go.Lib.hid hb7
        have l74 := hb7.lt
        clear q4 S1 S3 hb7 hk7 hch hko hE' hC' hp' g2 g3 g4 g1 gab
        go_wp2_with fail
        go_region_held3 (fun W' => W'.cell? ⟨w3.heap.size, 0, none⟩ = some (.int .i64 s.c) ∧ W'.cell? ⟨w3.heap.size, 1, none⟩ = some (.int .i64 s.p) ∧ W'.cell? ⟨w3.heap.size, 2, none⟩ = some v1 ∧ W'.cell? ⟨w3.heap.size, 3, none⟩ = some v2 ∧ W'.cell? ⟨w3.heap.size, 4, none⟩ = some v3 ∧ W'.cell? ⟨w3.heap.size, 5, none⟩ = some v4 ∧ W'.cell? (ad.add (j * 3)) = some (.int .u8 x.kind) ∧ W'.cell? ⟨(ad.add (j * 3)).block, (ad.add (j * 3)).off + 1, none⟩ = some (.int .u64 x.key) ∧ W'.cell? ⟨(ad.add (j * 3)).block, (ad.add (j * 3)).off + 2, none⟩ = some (.int .u16 x.n))
          (first | with_reducible exact HS3.out _ _ _ _ _ _ _ hb5' | with_reducible exact HS1.out _ hb5' | with_reducible exact HS1.out _ (hb5'.alloc hb5'.size _) | with_reducible exact HS1.out _ ((Below.refl _ _).alloc (Nat.le_refl _) _) | exact HS0.out)
          (first | (go_at_call 64; refine (HRD.out _ (by first | exact Below.refl _ _ | exact (Below.refl _ _).alloc (Nat.le_refl _) _)).mono ?_; rintro e w5 ⟨x1, x2, x3, x4, vo', rfl, hk5, hko5, hb5⟩; obtain ⟨a5, cap5, rfl⟩ := hk5.t.form; obtain ⟨a6, cap6, rfl⟩ := hk5.u.form; obtain ⟨a7, cap7, rfl⟩ := hk5.b.form; obtain ⟨a8, cap8, rfl⟩ := hk5.d.form; (have hb5' : Below w4.drew.heap.size w4.drew w5 := by first | exact hb5 | exact ((Below.refl _ _).alloc (Nat.le_refl _) _).trans (hb5.mono (by simp))); (try (have b10 := (Blk.new0 w4.drew [.int .i64 0, .int .i64 0, .slice none 0 0, .slice none 0 0, .slice none 0 0, .slice none 0 0] 73).keep hb5; have d0 := b10.cell 0; have d1 := b10.cell 1; have d2 := b10.cell 2; have d3 := b10.cell 3; have d4 := b10.cell 4; have d5 := b10.cell 5; have y0 := b10.frozen 0; have y1 := b10.frozen 1; have y2 := b10.frozen 2; have y3 := b10.frozen 3; have y4 := b10.frozen 4; have y5 := b10.frozen 5; simp only [List.getElem?_cons_zero, List.getElem?_cons_succ, World.size_drew] at d0 d1 d2 d3 d4 d5 y0 y1 y2 y3 y4 y5; have l10 := b10.lt; simp only [World.size_drew] at l10))))
        · have B56 : Below w4.heap.size w4 w5 := (Below.refl _ _).drew.trans hb5'
          obtain ⟨W6, hW6⟩ : ∃ W6, W6 = w5.alloc (Obj.cells #[.int .i64 (doA s x).fst.c, .int .i64 (doA s x).fst.p, .slice a5 (doA s x).fst.t.length cap5, .slice a6 (doA s x).fst.u.length cap6, .slice a7 (doA s x).fst.b.length cap7, .slice a8 (doA s x).fst.d.length cap8] 73) := ⟨_, rfl⟩
          have hB6 : Below w4.heap.size w4 W6 := by rw [hW6]; exact B56.alloc B56.size _
          have b10 : Blk W6 w5.heap.size [.int .i64 (doA s x).fst.c, .int .i64 (doA s x).fst.p, .slice a5 (doA s x).fst.t.length cap5, .slice a6 (doA s x).fst.u.length cap6, .slice a7 (doA s x).fst.b.length cap7, .slice a8 (doA s x).fst.d.length cap8] 73 := by rw [hW6]; exact Blk.new0 w5 _ _
          have k6 : AT W6 (.slice a5 (doA s x).fst.t.length cap5) (.slice a6 (doA s x).fst.u.length cap6) (.slice a7 (doA s x).fst.b.length cap7) (.slice a8 (doA s x).fst.d.length cap8) (doA s x).fst := by rw [hW6]; exact hk5.keep ((Below.refl _ _).alloc (Nat.le_refl _) _)
          have ko6 : KL W6 vo' (doA s x).snd := by rw [hW6]; exact hko5.keep ((Below.refl _ _).alloc (Nat.le_refl _) _)
          have hBn : w3.heap.size < w5.heap.size := by have := B56.size; omega
          rw [← hW6]
          clear hW6 hk5 hko5 hb5 hb5' B56
          generalize w5.heap.size = B10 at *
          have b7 := HB74.out.keep hB6
          have hne : w3.heap.size ≠ B10 := by omega
          have hne' : B10 ≠ w3.heap.size := hne.symm
          have d0 := b10.cell 0
          have d1 := b10.cell 1
          have d2 := b10.cell 2
          have d3 := b10.cell 3
          have d4 := b10.cell 4
          have d5 := b10.cell 5
          have d6 := b7.cell 0
          have d7 := b7.cell 1
          have d8 := b7.cell 2
          have d9 := b7.cell 3
          have d10 := b7.cell 4
          have d11 := b7.cell 5
          have y0 := b7.frozen 0
          have y1 := b7.frozen 1
          have y2 := b7.frozen 2
          have y3 := b7.frozen 3
          have y4 := b7.frozen 4
          have y5 := b7.frozen 5
          simp only [List.getElem?_cons_zero, List.getElem?_cons_succ] at d0 d1 d2 d3 d4 d5 d6 d7 d8 d9 d10 d11
          have l7 := b7.lt
          have l10 := b10.lt
          have E6 := HE4.out.keep hB6
          have ko := HKO.out.keep hB6
          have t7 := E6.typ b7 (by decide) (by decide)
          obtain ⟨W7, hW7⟩ : ∃ W7, W7 = ((((((W6.setCell ⟨w3.heap.size, 0, none⟩ (.int .i64 (doA s x).fst.c)).setCell ⟨w3.heap.size, 1, none⟩ (.int .i64 (doA s x).fst.p)).setCell ⟨w3.heap.size, 2, none⟩ (.slice a5 (doA s x).fst.t.length cap5)).setCell ⟨w3.heap.size, 3, none⟩ (.slice a6 (doA s x).fst.u.length cap6)).setCell ⟨w3.heap.size, 4, none⟩ (.slice a7 (doA s x).fst.b.length cap7)).setCell ⟨w3.heap.size, 5, none⟩ (.slice a8 (doA s x).fst.d.length cap8)) := ⟨_, rfl⟩
          have F7 : Fr (fun k => k = w3.heap.size) W6 W7 := by rw [hW7]; repeat' (first | exact Fr.refl _ _ | refine Fr.setEq ?_ ?_ _ | exact rfl)
          have F7' : Fr (fun k => k = w3.heap.size ∨ k = w3.heap.size) W6 W7 := F7.mono (fun k h => .inl h)
          have b7' : Blk W7 w3.heap.size [.int .i64 (doA s x).fst.c, .int .i64 (doA s x).fst.p, .slice a5 (doA s x).fst.t.length cap5, .slice a6 (doA s x).fst.u.length cap6, .slice a7 (doA s x).fst.b.length cap7, .slice a8 (doA s x).fst.d.length cap8] 73 := by rw [hW7]; exact ((((((b7.set 0 _).set 1 _).set 2 _).set 3 _).set 4 _).set 5 _)
          have k7 : AT W7 (.slice a5 (doA s x).fst.t.length cap5) (.slice a6 (doA s x).fst.u.length cap6) (.slice a7 (doA s x).fst.b.length cap7) (.slice a8 (doA s x).fst.d.length cap8) (doA s x).fst := ⟨k6.t.two b7 b7 (by decide) (by decide) F7', k6.u.two b7 b7 (by decide) (by decide) F7', k6.b.two b7 b7 (by decide) (by decide) F7', k6.d.two b7 b7 (by decide) (by decide) F7'⟩
          have ko7 : KL W7 vo' (doA s x).snd := ko6.two b7 b7 (by decide) (by decide) F7'
          have kv7 : KL W7 vo (doA s x).snd := ko.two b7 b7 (by decide) (by decide) F7'
          have E7 : Aca W7 px O' (doA s x).fst p' := E6.frame F7 (fun k hk e => t7 (by rw [← e]; exact hk))
          have ch7 : Chg (fun _ => False) O' w W7 := by
            have q := HCH4.out.below hB6
            exact ⟨q.fr.trans F7 (fun i e => .inr (by show w.heap.size ≤ i; rw [e]; exact hwB)), q.own⟩
          have HB7' := Go.Lib.hid b7'
          have HK7' := Go.Lib.hid k7
          have HKO7 := Go.Lib.hid ko7
          have HE7 := Go.Lib.hid E7
          have HKV7 := Go.Lib.hid kv7
          have HCH7 := Go.Lib.hid ch7
          have HW7 := Go.Lib.hid hW7
          have hs' : (doA s x).fst.ok := doA_ok HS.out HXO.out
          have hpp : p' ≤ 28 := by have h1 := HP4.out; have h2 := HS.out.hi; have h3 := hs'.hi; omega
          have HS' := Go.Lib.hid hs'
          clear hs' hW7 b7' k7 ko7 E7 kv7 ch7 F7 F7' t7 ko E6 b7 b10 k6 ko6 hB6
          go_wp2_with fail
          rw [← HW7.out]
          go_wp2_with fail
          go_roundw
          case rel => exact ⟨j + 1, (doA s x).fst, O', p', _, _, _, _, by omega, by go_num, HS'.out, hpp, HE7.out, HB7'.out, HK7'.out, HCH7.out⟩
          case measure => simp [intOf]; omega
        · have B56 : Below w4.heap.size w4 w5 := (Below.refl _ _).drew.trans hb5'
          obtain ⟨W6, hW6⟩ : ∃ W6, W6 = ((((((w5.setCell ⟨w4.heap.size, 0, none⟩ (.int .i64 (doA s x).fst.c)).setCell ⟨w4.heap.size, 1, none⟩ (.int .i64 (doA s x).fst.p)).setCell ⟨w4.heap.size, 2, none⟩ (.slice a5 (doA s x).fst.t.length cap5)).setCell ⟨w4.heap.size, 3, none⟩ (.slice a6 (doA s x).fst.u.length cap6)).setCell ⟨w4.heap.size, 4, none⟩ (.slice a7 (doA s x).fst.b.length cap7)).setCell ⟨w4.heap.size, 5, none⟩ (.slice a8 (doA s x).fst.d.length cap8)) := ⟨_, rfl⟩
          have hB6 : Below w4.heap.size w4 W6 := by rw [hW6]; exact (below_set (below_set (below_set (below_set (below_set (below_set B56 (Nat.le_refl _) _) (Nat.le_refl _) _) (Nat.le_refl _) _) (Nat.le_refl _) _) (Nat.le_refl _) _) (Nat.le_refl _) _)
          have hb10 : Blk W6 w4.heap.size [.int .i64 (doA s x).fst.c, .int .i64 (doA s x).fst.p, .slice a5 (doA s x).fst.t.length cap5, .slice a6 (doA s x).fst.u.length cap6, .slice a7 (doA s x).fst.b.length cap7, .slice a8 (doA s x).fst.d.length cap8] 73 := by rw [hW6]; exact ((((((b10.set 0 _).set 1 _).set 2 _).set 3 _).set 4 _).set 5 _)
          have F6 : Fr (fun k => k = w4.heap.size ∨ k = w4.heap.size) w5 W6 := by rw [hW6]; repeat' (first | exact Fr.refl _ _ | refine Fr.setEq ?_ ?_ _ | exact .inl rfl)
          have k6 : AT W6 (.slice a5 (doA s x).fst.t.length cap5) (.slice a6 (doA s x).fst.u.length cap6) (.slice a7 (doA s x).fst.b.length cap7) (.slice a8 (doA s x).fst.d.length cap8) (doA s x).fst := ⟨hk5.t.two b10 b10 (by decide) (by decide) F6, hk5.u.two b10 b10 (by decide) (by decide) F6, hk5.b.two b10 b10 (by decide) (by decide) F6, hk5.d.two b10 b10 (by decide) (by decide) F6⟩
          have ko6 : KL W6 vo' (doA s x).snd := hko5.two b10 b10 (by decide) (by decide) F6
          have hBn : w3.heap.size < w4.heap.size := l74
          rw [← hW6]
          clear hW6 hk5 hko5 hb5 hb5' B56 b10 d0 d1 d2 d3 d4 d5 y0 y1 y2 y3 y4 y5 l10 F6
          have b10 := hb10
          clear hb10
          generalize hBB : w4.heap.size = B10 at b10 hBn ⊢
          clear hBB
          have b7 := HB74.out.keep hB6
          have hne : w3.heap.size ≠ B10 := by omega
          have hne' : B10 ≠ w3.heap.size := hne.symm
          have d0 := b10.cell 0
          have d1 := b10.cell 1
          have d2 := b10.cell 2
          have d3 := b10.cell 3
          have d4 := b10.cell 4
          have d5 := b10.cell 5
          have d6 := b7.cell 0
          have d7 := b7.cell 1
          have d8 := b7.cell 2
          have d9 := b7.cell 3
          have d10 := b7.cell 4
          have d11 := b7.cell 5
          have y0 := b7.frozen 0
          have y1 := b7.frozen 1
          have y2 := b7.frozen 2
          have y3 := b7.frozen 3
          have y4 := b7.frozen 4
          have y5 := b7.frozen 5
          simp only [List.getElem?_cons_zero, List.getElem?_cons_succ] at d0 d1 d2 d3 d4 d5 d6 d7 d8 d9 d10 d11
          have l7 := b7.lt
          have l10 := b10.lt
          have E6 := HE4.out.keep hB6
          have ko := HKO.out.keep hB6
          have t7 := E6.typ b7 (by decide) (by decide)
          obtain ⟨W7, hW7⟩ : ∃ W7, W7 = ((((((W6.setCell ⟨w3.heap.size, 0, none⟩ (.int .i64 (doA s x).fst.c)).setCell ⟨w3.heap.size, 1, none⟩ (.int .i64 (doA s x).fst.p)).setCell ⟨w3.heap.size, 2, none⟩ (.slice a5 (doA s x).fst.t.length cap5)).setCell ⟨w3.heap.size, 3, none⟩ (.slice a6 (doA s x).fst.u.length cap6)).setCell ⟨w3.heap.size, 4, none⟩ (.slice a7 (doA s x).fst.b.length cap7)).setCell ⟨w3.heap.size, 5, none⟩ (.slice a8 (doA s x).fst.d.length cap8)) := ⟨_, rfl⟩
          have F7 : Fr (fun k => k = w3.heap.size) W6 W7 := by rw [hW7]; repeat' (first | exact Fr.refl _ _ | refine Fr.setEq ?_ ?_ _ | exact rfl)
          have F7' : Fr (fun k => k = w3.heap.size ∨ k = w3.heap.size) W6 W7 := F7.mono (fun k h => .inl h)
          have b7' : Blk W7 w3.heap.size [.int .i64 (doA s x).fst.c, .int .i64 (doA s x).fst.p, .slice a5 (doA s x).fst.t.length cap5, .slice a6 (doA s x).fst.u.length cap6, .slice a7 (doA s x).fst.b.length cap7, .slice a8 (doA s x).fst.d.length cap8] 73 := by rw [hW7]; exact ((((((b7.set 0 _).set 1 _).set 2 _).set 3 _).set 4 _).set 5 _)
          have k7 : AT W7 (.slice a5 (doA s x).fst.t.length cap5) (.slice a6 (doA s x).fst.u.length cap6) (.slice a7 (doA s x).fst.b.length cap7) (.slice a8 (doA s x).fst.d.length cap8) (doA s x).fst := ⟨k6.t.two b7 b7 (by decide) (by decide) F7', k6.u.two b7 b7 (by decide) (by decide) F7', k6.b.two b7 b7 (by decide) (by decide) F7', k6.d.two b7 b7 (by decide) (by decide) F7'⟩
          have ko7 : KL W7 vo' (doA s x).snd := ko6.two b7 b7 (by decide) (by decide) F7'
          have kv7 : KL W7 vo (doA s x).snd := ko.two b7 b7 (by decide) (by decide) F7'
          have E7 : Aca W7 px O' (doA s x).fst p' := E6.frame F7 (fun k hk e => t7 (by rw [← e]; exact hk))
          have ch7 : Chg (fun _ => False) O' w W7 := by
            have q := HCH4.out.below hB6
            exact ⟨q.fr.trans F7 (fun i e => .inr (by show w.heap.size ≤ i; rw [e]; exact hwB)), q.own⟩
          have HB7' := Go.Lib.hid b7'
          have HK7' := Go.Lib.hid k7
          have HKO7 := Go.Lib.hid ko7
          have HE7 := Go.Lib.hid E7
          have HKV7 := Go.Lib.hid kv7
          have HCH7 := Go.Lib.hid ch7
          have HW7 := Go.Lib.hid hW7
          have hs' : (doA s x).fst.ok := doA_ok HS.out HXO.out
          have hpp : p' ≤ 28 := by have h1 := HP4.out; have h2 := HS.out.hi; have h3 := hs'.hi; omega
          have HS' := Go.Lib.hid hs'
          clear hs' hW7 b7' k7 ko7 E7 kv7 ch7 F7 F7' t7 ko E6 b7 b10 k6 ko6 hB6
          go_wp2_with fail
          rw [← HW7.out]
          go_wp2_with fail
          go_roundw
          case rel => exact ⟨j + 1, (doA s x).fst, O', p', _, _, _, _, by omega, by go_num, HS'.out, hpp, HE7.out, HB7'.out, HK7'.out, HCH7.out⟩
          case measure => simp [intOf]; omega
      · have e : j = A.length := by omega
        subst e
        have HS := Go.Lib.hid hs
        have HE := Go.Lib.hid hE
        have HB7 := Go.Lib.hid hb7
        have HK7 := Go.Lib.hid hk7
        have HCH := Go.Lib.hid hch
        obtain ⟨a5, cap5, rfl⟩ := hk7.t.form
        obtain ⟨a6, cap6, rfl⟩ := hk7.u.form
        obtain ⟨a7, cap7, rfl⟩ := hk7.b.form
        obtain ⟨a8, cap8, rfl⟩ := hk7.d.form
        have hln := hE.len
        have HLN := Go.Lib.hid hln
        have HRK := Go.Lib.hid (a11keys_any s.c s.p (.slice a5 s.t.length cap5) (.slice a6 s.u.length cap6) (.slice a7 s.b.length cap7) (.slice a8 s.d.length cap8) s.t s.u wr (by omega) (by omega) hk7.t hk7.u)
        have c0 := hb7.cell 0
        have c1 := hb7.cell 1
        have c2 := hb7.cell 2
        have c3 := hb7.cell 3
        have c4 := hb7.cell 4
        have c5 := hb7.cell 5
        simp only [List.getElem?_cons_zero, List.getElem?_cons_succ] at c0 c1 c2 c3 c4 c5
        have lx7 := hb7.lt
        clear hs hE hb7 hk7 hch hln
        go_wp2_with fail
        refine HRK.out.mono ?_
        rintro e w5 ⟨vr, rfl, hkr, hb5⟩
        have HB5 := Go.Lib.hid hb5
        have HKR := Go.Lib.hid hkr
        have S2 := fun W' (hb : Below w5.drew.heap.size w5.drew W') =>
          have q : Below wr.heap.size wr W' := hb5.trans (((Below.refl _ _).drew.trans hb).mono hb5.size)
          (⟨(HB7.out.keep q).cell 0, (HB7.out.keep q).cell 1, (HB7.out.keep q).cell 2, (HB7.out.keep q).cell 3, (HB7.out.keep q).cell 4, (HB7.out.keep q).cell 5⟩ : W'.cell? ⟨w3.heap.size, 0, none⟩ = some (.int .i64 s.c) ∧ W'.cell? ⟨w3.heap.size, 1, none⟩ = some (.int .i64 s.p) ∧ W'.cell? ⟨w3.heap.size, 2, none⟩ = some (.slice a5 s.t.length cap5) ∧ W'.cell? ⟨w3.heap.size, 3, none⟩ = some (.slice a6 s.u.length cap6) ∧ W'.cell? ⟨w3.heap.size, 4, none⟩ = some (.slice a7 s.b.length cap7) ∧ W'.cell? ⟨w3.heap.size, 5, none⟩ = some (.slice a8 s.d.length cap8))
        have HS2 := Go.Lib.hid S2
        have HS20 := Go.Lib.hid (S2 _ (Below.refl _ _))
        have HQ := Go.Lib.hid (fun W' (hb : Below w5.drew.heap.size w5.drew W') => hb5.trans (((Below.refl _ _).drew.trans hb).mono hb5.size))
        have HEK := Go.Lib.hid (akeys_any px w5.drew (HE.out.keep (HQ.out _ (Below.refl _ _))))
        have HSM := Go.Lib.hid (fun W vk (h8 : KL W vk (s.t ++ s.u)) (hb : Below w5.drew.heap.size w5.drew W) => same_any vk vr (s.t ++ s.u) (s.t ++ s.u) W h8 (HKR.out.keep ((Below.refl _ _).drew.trans hb)))
        have hdt : decide ((s.t ++ s.u) = (s.t ++ s.u)) = true := by simp
        rw [hdt] at HSM
        have HEH := Go.Lib.hid (fun W (hb : Below w5.drew.heap.size w5.drew W) => ahas_any px k W hk0 hk1 (HE.out.keep (HQ.out W hb)))
        have HRH := Go.Lib.hid (fun W (hb : Below w5.drew.heap.size w5.drew W) => has_any vr (s.t ++ s.u) k W (HKR.out.keep ((Below.refl _ _).drew.trans hb)))
        have HEG := Go.Lib.hid (fun W (hb : Below w5.drew.heap.size w5.drew W) => aghosts_any px W (HE.out.keep (HQ.out W hb)))
        have HRG := Go.Lib.hid (fun W (hb : Below w5.drew.heap.size w5.drew W) => a11ghosts_any s.c s.p (.slice a5 s.t.length cap5) (.slice a6 s.u.length cap6) (.slice a7 s.b.length cap7) (.slice a8 s.d.length cap8) s W (by have h1 := HLN.out; omega) (HK7.out.keep (HQ.out W hb)))
        clear S2 hdt hb5 hkr c0 c1 c2 c3 c4 c5
        generalize decide (k ∈ (s.t ++ s.u)) = there at *
        go_wp2_with fail
        go_region_held3 (fun W' => W'.cell? ⟨w3.heap.size, 0, none⟩ = some (.int .i64 s.c) ∧ W'.cell? ⟨w3.heap.size, 1, none⟩ = some (.int .i64 s.p) ∧ W'.cell? ⟨w3.heap.size, 2, none⟩ = some (.slice a5 s.t.length cap5) ∧ W'.cell? ⟨w3.heap.size, 3, none⟩ = some (.slice a6 s.u.length cap6) ∧ W'.cell? ⟨w3.heap.size, 4, none⟩ = some (.slice a7 s.b.length cap7) ∧ W'.cell? ⟨w3.heap.size, 5, none⟩ = some (.slice a8 s.d.length cap8))
          (first | with_reducible exact HS2.out _ hb4 | with_reducible exact HS2.out _ hb5 | with_reducible exact HS2.out _ hb3 | with_reducible exact HS2.out _ hb2 | with_reducible exact HS2.out _ hb1 | exact HS20.out)
          (first | (go_at_call 68; refine HEK.out.mono ?_; rintro e u1 ⟨vk, rfl, hkk, hb1⟩) | (go_at_call 24; refine (HSM.out _ _ hkk hb1).mono ?_; rintro e u2 ⟨rfl, hb2'⟩; have hb2 := hb1.trans (hb2'.mono hb1.size)) | (go_at_call 69; refine (HEH.out _ hb2).mono ?_; rintro e u3 ⟨rfl, hb3'⟩; have hb3 := hb2.trans (hb3'.mono hb2.size)) | (go_at_call 33; refine (HRH.out _ hb3).mono ?_; rintro e u4 ⟨rfl, rfl⟩) | (go_at_call 70; refine (HEG.out _ hb3).mono ?_; rintro e u5 ⟨rfl, hb5'⟩; have hb5 := hb3.trans (hb5'.mono hb3.size)) | (go_at_call 71; refine (HRG.out _ hb5).mono ?_; rintro e u6 ⟨rfl, hb4'⟩; have hb4 := hb5.trans (hb4'.mono hb5.size)))
        have F := (HCH.out.below (HQ.out _ hb4)).fr
        have HF := Go.Lib.hid F.below
        clear F hb4 hb4' hb5 hb5' hb3 hb3' hb2 hb2' hb1 hkk
        go_wp2_with fail
        go_ret
        exact ⟨rfl, HF.out⟩
  · have hlb : (60 : Int) < A.length := by omega
    go_enter Try.func12, Try.ntmps12
    go_wp2_with fail
    refine (aawake_any _).mono ?_
    rintro e w1 ⟨rfl, hb1⟩
    have HB1 := Go.Lib.hid hb1
    clear hb1
    go_wp2_with fail
    go_ret
    exact ⟨rfl, HB1.out⟩
end Go.Proofs.Ytlakojncjldpbaa
