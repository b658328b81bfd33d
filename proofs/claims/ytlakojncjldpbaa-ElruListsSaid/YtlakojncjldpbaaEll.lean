/- ElruLists: the walk. -/
import Derived.Test.YtlakojncjldpbaaElaw2
import Derived.Test.YtlakojncjldpbaaGLr
import Derived.Deep.RegionWith
namespace Go.Proofs.Ytlakojncjldpbaa
open Go.RowKit Hop
set_option linter.unusedVariables false
set_option linter.unusedSimpArgs false
set_option maxRecDepth 100000
theorem admitL_len (c : Int) (L : List Int) (k : Int) : (admitL c L k).length ≤ L.length + 1 := by
  have q := wo_len (L.take (c - 1).toNat) k
  have q2 : (L.take (c - 1).toNat).length ≤ L.length := by rw [List.length_take]; omega
  unfold admitL
  split
  · omega
  · rw [List.length_cons]; omega
theorem same_rfl (va vb : Value) (A : List Int) (w : World) (ha : KL w va A) (hb : KL w vb A) : Calls Try.prog 24 #[va, vb] w fun e w' => e = .returned (.bool true) ∧ Below w.heap.size w w' :=
  (same_any va vb A A w ha hb).mono fun e w' ⟨h1, h2⟩ => ⟨by rw [h1]; simp, h2⟩
theorem touch_f (c : Int) (v : Value) (L : List Int) (k : Int) (w : World) (hsm : L.length < 50000) (h : KL w v L) :
    Calls Try.prog 96 #[luV c v, .int .u64 k] w fun e w' => ∃ a1 n1 cap1, e = .returned (luV c (.slice a1 n1 cap1)) ∧ KL w' (.slice a1 n1 cap1) (touchL L k) ∧ Below w.heap.size w w' :=
  (lrtouch_any c v L k w hsm h).mono fun e w' ⟨v', h1, h2, _, h4⟩ => by
    obtain ⟨a, cap, rfl⟩ := h2.form
    exact ⟨a, _, cap, h1, h2, h4⟩
theorem drop_f (c : Int) (v : Value) (L : List Int) (k : Int) (w : World) (hsm : L.length < 50000) (h : KL w v L) :
    Calls Try.prog 98 #[luV c v, .int .u64 k] w fun e w' => ∃ a1 n1 cap1, e = .returned (luV c (.slice a1 n1 cap1)) ∧ KL w' (.slice a1 n1 cap1) (wo L k) ∧ Below w.heap.size w w' :=
  (lrdrop_any c v L k w hsm h).mono fun e w' ⟨v', h1, h2, _, h4⟩ => by
    obtain ⟨a, cap, rfl⟩ := h2.form
    exact ⟨a, _, cap, h1, h2, h4⟩
theorem admit_f (c : Int) (v : Value) (L : List Int) (k : Int) (w : World) (hc0 : 1 ≤ c) (hc1 : c ≤ 1048576) (hsm : L.length < 50000) (h : KL w v L) :
    Calls Try.prog 97 #[luV c v, .int .u64 k] w fun e w' => ∃ a1 n1 cap1 a2 n2 cap2, e = .returned (.tuple #[luV c (.slice a1 n1 cap1), .slice a2 n2 cap2]) ∧ KL w' (.slice a1 n1 cap1) (admitL c L k) ∧ KL w' (.slice a2 n2 cap2) (admitO c L k) ∧ Below w.heap.size w w' :=
  (lradmit_any c v L k w hc0 hc1 hsm h).mono fun e w' ⟨v', vo, h1, ⟨h2, _, h4⟩, h5⟩ => by
    obtain ⟨a, cap, rfl⟩ := h2.form
    obtain ⟨a2, cap2, rfl⟩ := h5.form
    exact ⟨a, _, cap, a2, _, cap2, h1, h2, h5, h4⟩
theorem resize_f (c n : Int) (v : Value) (L : List Int) (w : World) (hn0 : -9223372036854775808 ≤ n) (hn1 : n ≤ 9223372036854775807) (hsm : L.length < 50000) (h : KL w v L) :
    Calls Try.prog 99 #[luV c v, .int .i64 n] w fun e w' => ∃ a1 n1 cap1 a2 n2 cap2, e = .returned (.tuple #[luV (capF n) (.slice a1 n1 cap1), .slice a2 n2 cap2]) ∧ KL w' (.slice a1 n1 cap1) (L.take (capF n).toNat) ∧ KL w' (.slice a2 n2 cap2) (fallL L (capF n)) ∧ Below w.heap.size w w' :=
  (lrresize_any c n v L w hn0 hn1 hsm h).mono fun e w' ⟨v', vo, h1, ⟨h2, _, h4⟩, h5⟩ => by
    obtain ⟨a, cap, rfl⟩ := h2.form
    obtain ⟨a2, cap2, rfl⟩ := h5.form
    exact ⟨a, _, cap, a2, _, cap2, h1, h2, h5, h4⟩
set_option maxHeartbeats 60000000 in
theorem elists_any (c : Int) (v : Value) (A : List Ac) (w : World) (hc0 : 0 ≤ c) (hc1 : c < 256) (h : AL w v A) :
    Calls Try.prog 17 #[.int .u8 c, v] w fun e w' => e = .returned (.bool true) ∧ Below w.heap.size w w' := by
  have HAL := Go.Lib.hid h
  obtain ⟨a, cap, rfl, hm, hok, hcell⟩ := h
  have HOK := Go.Lib.hid hok
  clear hok hcell
  have hcm : 0 ≤ c % 12 ∧ c % 12 < 12 := by omega
  obtain ⟨hcm0, hcm1⟩ := hcm
  have HC : Hid (capF (1 + c % 12) = 1 + c % 12) := Go.Lib.hid (capF_id (by omega))
  unfold maxLen at hm
  by_cases hlen : A.length ≤ 60
  · go_enter Try.func17, Try.ntmps17
    go_wp2_with fail
    refine (awake_any _).mono ?_
    rintro e w1 ⟨rfl, hb1⟩
    have HB1 := Go.Lib.hid hb1
    clear hb1
    go_wp2_with fail
    refine (enew_any _ _).mono ?_
    rintro e w2 ⟨px, O2, rfl, hE2, ho2, hb2⟩
    have HE2 := Go.Lib.hid hE2
    have HO2 := Go.Lib.hid ho2
    have HB2 := Go.Lib.hid hb2
    clear hE2 ho2 hb2
    go_wp2_with fail
    refine (lrnew_any _ _ (by omega) (by omega)).mono ?_
    rintro e w3 ⟨rfl, hb3⟩
    have HB3 := Go.Lib.hid hb3
    clear hb3
    go_wp2_with fail
    have HC7 : Hid (Ela (w3.alloc (.cells #[.int .i64 (capF (1 + c % 12)), .slice none 0 0] 39)) px O2 [] (capF (1 + c % 12)) 0) := Go.Lib.hid ((HE2.out.keep HB3.out).keep ((Below.refl _ _).alloc (Nat.le_refl _) _))
    have sz1 := HB1.out.size
    have sz2 := HB2.out.size
    have sz3 := HB3.out.size
    have HCH : Hid (Chg (fun _ => False) O2 w (w3.alloc (.cells #[.int .i64 (capF (1 + c % 12)), .slice none 0 0] 39))) := Go.Lib.hid (by
      have c1 : Chg (fun _ => False) O2 w w2 := ⟨Fr.of_below (HB1.out.trans (HB2.out.mono sz1)), fun k hk => .inr (by have := HO2.out k hk; omega)⟩
      exact (c1.below HB3.out).below ((Below.refl _ _).alloc (Nat.le_refl _) _))
    rw [HC.out] at HC7 HCH
    rw [HC.out]
    have hsok : LS.ok ⟨1 + c % 12, []⟩ := ⟨by show 1 ≤ 1 + c % 12; omega, by show 1 + c % 12 ≤ 14; omega⟩
    have HSOK := Go.Lib.hid hsok
    have hwB : w.heap.size ≤ w3.heap.size := by omega
    clear hsok
    go_loopw [8] (fun i wr => ∃ (j : Nat) (s : LS) (O : Nat → Prop) (p : Nat) (v7 : Value), j ≤ A.length ∧ i = .int .i64 j ∧ s.ok ∧ p ≤ 14 ∧ Ela wr px O s.l s.c p ∧ Blk wr w3.heap.size [.int .i64 s.c, v7] 39 ∧ KL wr v7 s.l ∧ Chg (fun _ => False) O w wr) (fun i _ => A.length - (intOf i).toNat)
    case atStart => exact ⟨0, ⟨1 + c % 12, []⟩, O2, 0, .slice none 0 0, by omega, rfl, HSOK.out, by omega, HC7.out, Blk.new0 w3 _ _, KL.nil _, HCH.out⟩
    case round =>
      obtain ⟨j, s, O, p, v7, hj, rfl, hs, hp, hE, hb7, hk7, hch⟩ := hrel
      by_cases hlt : j < A.length
      · obtain ⟨a7, cap7, rfl⟩ := hk7.form
        obtain ⟨x, hx⟩ : ∃ x, A[j]? = some x := ⟨A[j], List.getElem?_eq_getElem hlt⟩
        have hxo : x.ok := HOK.out x (List.mem_of_getElem? hx)
        have hs14 : s.l.length ≤ 14 := by have := hE.len; omega
        have hsl : s.l.length < 50000 := by omega
        obtain ⟨a', cap', e1, _, _, hcl⟩ := HAL.out.keep hch.fr.below
        injection e1 with e2 e3 e4
        subst e2; subst e4
        obtain ⟨ad, rfl, g1, g2, g3, g4⟩ := hcl j x hx
        have gab : (ad.add (j * 3)).block < wr.heap.size := by rw [add_block]; exact g1
        have HXC := Go.Lib.hid (fun (W W' : World) (ch : Chg (fun _ => False) O w W) (hb : Below W.heap.size W W') => show W'.cell? (ad.add (j * 3)) = some (.int .u8 x.kind) ∧ W'.cell? ⟨(ad.add (j * 3)).block, (ad.add (j * 3)).off + 1, none⟩ = some (.int .u64 x.key) ∧ W'.cell? ⟨(ad.add (j * 3)).block, (ad.add (j * 3)).off + 2, none⟩ = some (.int .u16 x.n) from by
          obtain ⟨a', cap', e1, _, _, hcl⟩ := HAL.out.keep ((ch.fr.below).trans (hb.mono ch.fr.size))
          injection e1 with e2 e3 e4
          subst e4
          obtain ⟨ad', e5, _, f2, f3, f4⟩ := hcl j x hx
          rw [← e2] at e5
          injection e5 with e5
          subst e5
          exact ⟨f2, f3, f4⟩)
        have HXC2 := Go.Lib.hid (fun (O' : Nat → Prop) (W W' : World) (ch : Chg (fun _ => False) O' w W) (hb : Below W.heap.size W W') => show W'.cell? (ad.add (j * 3)) = some (.int .u8 x.kind) ∧ W'.cell? ⟨(ad.add (j * 3)).block, (ad.add (j * 3)).off + 1, none⟩ = some (.int .u64 x.key) ∧ W'.cell? ⟨(ad.add (j * 3)).block, (ad.add (j * 3)).off + 2, none⟩ = some (.int .u16 x.n) from by
          obtain ⟨a', cap', e1, _, _, hcl⟩ := HAL.out.keep ((ch.fr.below).trans (hb.mono ch.fr.size))
          injection e1 with e2 e3 e4
          subst e4
          obtain ⟨ad', e5, _, f2, f3, f4⟩ := hcl j x hx
          rw [← e2] at e5
          injection e5 with e5
          subst e5
          exact ⟨f2, f3, f4⟩)
        have HXO := Go.Lib.hid hxo
        have HS := Go.Lib.hid hs
        have HE := Go.Lib.hid hE
        have HB7 := Go.Lib.hid hb7
        have HK7 := Go.Lib.hid hk7
        have HCH := Go.Lib.hid hch
        have HAD := Go.Lib.hid (show (ad.add (j * 3)).block < w.heap.size from by
          obtain ⟨a', cap', e1, _, _, hcl⟩ := HAL.out
          injection e1 with e2 e3 e4
          obtain ⟨ad', e5, f1, _, _, _⟩ := hcl j x hx
          rw [← e2] at e5
          injection e5 with e5
          subst e5
          rw [add_block]; exact f1)
        have S9 := fun W' (hb : Below wr.drew.heap.size wr.drew W') => (have q := HXC.out wr W' hch ((Below.refl _ _).drew.trans hb); (⟨(hb7.keep ((Below.refl _ _).drew.trans hb)).cell 0, (hb7.keep ((Below.refl _ _).drew.trans hb)).cell 1, q.1, q.2.1, q.2.2⟩ : W'.cell? ⟨w3.heap.size, 0, none⟩ = some (.int .i64 s.c) ∧ W'.cell? ⟨w3.heap.size, 1, none⟩ = some (.slice a7 s.l.length cap7) ∧ W'.cell? (ad.add (j * 3)) = some (.int .u8 x.kind) ∧ W'.cell? ⟨(ad.add (j * 3)).block, (ad.add (j * 3)).off + 1, none⟩ = some (.int .u64 x.key) ∧ W'.cell? ⟨(ad.add (j * 3)).block, (ad.add (j * 3)).off + 2, none⟩ = some (.int .u16 x.n)))
        have HS9 := Go.Lib.hid S9
        have HS90 := Go.Lib.hid (S9 _ (Below.refl _ _))
        have HLH := Go.Lib.hid (lrhas_any s.c _ s.l x.key wr.drew (hk7.keep (Below.refl _ _).drew))
        have HKD := Go.Lib.hid (fun t w => kind_any x.kind x.key x.n t w hxo.1)
        have HD : Hid (doS s x = if kindF x.kind (decide (x.key ∈ s.l)) = 1 then (⟨s.c, touchL s.l x.key⟩, []) else if kindF x.kind (decide (x.key ∈ s.l)) = 2 then (⟨s.c, admitL s.c s.l x.key⟩, admitO s.c s.l x.key) else if kindF x.kind (decide (x.key ∈ s.l)) = 3 then (⟨s.c, wo s.l x.key⟩, []) else (⟨capF (sizeF x.n), s.l.take (capF (sizeF x.n)).toNat⟩, fallL s.l (capF (sizeF x.n)))) := Go.Lib.hid rfl
        have l70 := hb7.lt
        clear S9 hx hxo hcl hs hE hb7 hk7 hch e3 g2 g3 g4 g1
        go_wp2_with fail
        go_region_held3 (fun W' => W'.cell? ⟨w3.heap.size, 0, none⟩ = some (.int .i64 s.c) ∧ W'.cell? ⟨w3.heap.size, 1, none⟩ = some (.slice a7 s.l.length cap7) ∧ W'.cell? (ad.add (j * 3)) = some (.int .u8 x.kind) ∧ W'.cell? ⟨(ad.add (j * 3)).block, (ad.add (j * 3)).off + 1, none⟩ = some (.int .u64 x.key) ∧ W'.cell? ⟨(ad.add (j * 3)).block, (ad.add (j * 3)).off + 2, none⟩ = some (.int .u16 x.n))
          (first | with_reducible exact HS9.out _ hb5 | with_reducible exact HS9.out _ hb4 | exact HS90.out)
          (first | (go_at_call 95; refine HLH.out.mono ?_; rintro e w4 ⟨rfl, hb4⟩) | (go_at_call 94; refine (HKD.out _ _).mono ?_; rintro e w5 ⟨rfl, hb5'⟩; have hb5 := hb4.trans (hb5'.mono hb4.size)))
        have B5 : Below wr.heap.size wr w5 := (Below.refl _ _).drew.trans hb5
        have HB5 := Go.Lib.hid B5
        have sz5 := B5.size
        clear hb4 hb5 hb5' B5 HLH HKD
        generalize kindF x.kind (decide (x.key ∈ s.l)) = kd at *
        have HB75 := Go.Lib.hid (HB7.out.keep HB5.out)
        have HK75 := Go.Lib.hid (HK7.out.keep HB5.out)
        have HCH5 := Go.Lib.hid (HCH.out.below HB5.out)
        have HE5 := Go.Lib.hid (HE.out.keep HB5.out)
        have gab5 : (ad.add (j * 3)).block < w5.heap.size := by omega
        have l75 : w3.heap.size < w5.heap.size := by omega
        clear gab l70
        by_cases h1 : kd = 1
        · subst h1
          rw [if_pos rfl] at HD
          have q5 := HXC.out w5 w5.drew HCH5.out (Below.refl _ _).drew
          obtain ⟨q50, q51, q52⟩ := q5
          have c0 : w5.drew.cell? ⟨w3.heap.size, 0, none⟩ = some (.int .i64 s.c) := HB75.out.cell 0
          have c1 : w5.drew.cell? ⟨w3.heap.size, 1, none⟩ = some (.slice a7 s.l.length cap7) := HB75.out.cell 1
          have HT := Go.Lib.hid (touch_f s.c _ s.l x.key w5.drew hsl (HK75.out.keep (Below.refl _ _).drew))
          have HLL : Hid ((touchL s.l x.key).length < 50000) := Go.Lib.hid (by have q := wo_len s.l x.key; unfold touchL; split <;> simp <;> omega)
          go_wp2_with fail
          go_region_with (go_at_call 96; refine HT.out.mono ?_; rintro e w6 ⟨a6, n6, cap6, rfl, hk6, hb6⟩; (have qb := HB75.out.drew.keep hb6; have r0 := qb.cell 0; have r1 := qb.cell 1; have y0 := qb.frozen 0; have y1 := qb.frozen 1); simp only [List.getElem?_cons_zero, List.getElem?_cons_succ] at r0 r1; have rl := qb.lt)
          · have B56 := ((Below.refl w5.heap.size w5).drew.trans hb6)
            have qv := hk6
            have qg := KL.nil w6
            have n7 := qv.ne qb (by decide)
            have m7 := qg.ne qb (by decide)
            have E6 := HE5.out.keep B56
            have t7 := E6.typ qb (by decide) (by decide)
            obtain ⟨W7, hW7⟩ : ∃ W7, W7 = (w6.setCell ⟨w3.heap.size, 0, none⟩ (.int .i64 s.c)).setCell ⟨w3.heap.size, 1, none⟩ (.slice a6 n6 cap6) := ⟨_, rfl⟩
            have F7 : Fr (fun k => k = w3.heap.size) w6 W7 := by rw [hW7]; exact ((Fr.refl (fun k => k = w3.heap.size) w6).setEq rfl _).setEq rfl _
            have b7 : Blk W7 w3.heap.size [.int .i64 s.c, .slice a6 n6 cap6] 39 := by rw [hW7]; exact (qb.set 0 _).set 1 _
            have k7 : KL W7 (.slice a6 n6 cap6) (touchL s.l x.key) := by rw [hW7]; exact (qv.set_ne n7 _).set_ne n7 _
            have g7 : KL W7 (.slice none 0 0) [] := by rw [hW7]; exact (qg.set_ne m7 _).set_ne m7 _
            have E7 : Ela W7 px O s.l s.c p := by
              obtain ⟨ps, O1, e1, e2, e3, e4⟩ := E6
              exact ⟨ps, O1, F7.blk (fun e => t7 (by rw [e4]; exact .inl e.symm)) e1, e2.frame F7 (fun k hk e => t7 (by rw [e4]; exact .inr (e ▸ hk))), e3, e4⟩
            have ch7 : Chg (fun _ => False) O w W7 := by
              have q := HCH5.out.below B56
              exact ⟨q.fr.trans F7 (fun i e => .inr (by show w.heap.size ≤ i; rw [e]; exact hwB)), q.own⟩
            have Dr := (Below.refl W7.heap.size W7).drew
            have hso : LS.ok (doS s x).1 := doS_ok HS.out HXO.out
            have HDO := Go.Lib.hid (do_any px s x W7.drew HXO.out ⟨HS.out.lo, by have := HS.out.hi; omega⟩ (by omega) (E7.keep Dr))
            rw [HD.out] at HDO hso
            have HSO := Go.Lib.hid hso
            have HS22 := Go.Lib.hid (fun (W8 W' : World) (O' : Nat → Prop) (b : Blk W8 w3.heap.size [.int .i64 s.c, .slice a6 n6 cap6] 39) (ch : Chg (fun _ => False) O' w W8) (hb : Below W8.heap.size W8 W') => (have q := HXC2.out O' W8 W' ch hb; (⟨(b.keep hb).cell 0, (b.keep hb).cell 1, q.1, q.2.1, q.2.2⟩ : W'.cell? ⟨w3.heap.size, 0, none⟩ = some (.int .i64 s.c) ∧ W'.cell? ⟨w3.heap.size, 1, none⟩ = some (.slice a6 n6 cap6) ∧ W'.cell? (ad.add (j * 3)) = some (.int .u8 x.kind) ∧ W'.cell? ⟨(ad.add (j * 3)).block, (ad.add (j * 3)).off + 1, none⟩ = some (.int .u64 x.key) ∧ W'.cell? ⟨(ad.add (j * 3)).block, (ad.add (j * 3)).off + 2, none⟩ = some (.int .u16 x.n))))
            have HS220 := Go.Lib.hid (HS22.out _ _ _ b7 ch7 Dr)
            have Hb7 := Go.Lib.hid b7
            have Hk7 := Go.Lib.hid (k7.keep Dr)
            have Hg7 := Go.Lib.hid (g7.keep Dr)
            have HE7 := Go.Lib.hid (E7.keep Dr)
            have HCH7 := Go.Lib.hid (ch7.below Dr)
            have HT7 := Go.Lib.hid ((E7.keep Dr).typ (b7.keep Dr) (by decide) (by decide))
            have HBd := Go.Lib.hid (b7.keep Dr)
            have l77 := b7.lt
            have hss := F7.size
            have hsz := B56.size
            have gab7 : (ad.add (j * 3)).block < W7.heap.size := by omega
            have HW7 := Go.Lib.hid hW7
            rw [← hW7]
            clear hW7 B56 qv qg n7 m7 E6 t7 F7 b7 k7 g7 E7 ch7 Dr hso
            clear hb6 hk6 qb r0 r1 y0 y1 rl c0 c1 q50 q51 q52
            go_wp2_with fail
            go_region_held3 (fun W' => W'.cell? ⟨w3.heap.size, 0, none⟩ = some (.int .i64 s.c) ∧ W'.cell? ⟨w3.heap.size, 1, none⟩ = some (.slice a6 n6 cap6) ∧ W'.cell? (ad.add (j * 3)) = some (.int .u8 x.kind) ∧ W'.cell? ⟨(ad.add (j * 3)).block, (ad.add (j * 3)).off + 1, none⟩ = some (.int .u64 x.key) ∧ W'.cell? ⟨(ad.add (j * 3)).block, (ad.add (j * 3)).off + 2, none⟩ = some (.int .u16 x.n))
              (first | with_reducible exact HS22.out _ _ _ b78 ch8 hb13 | with_reducible exact HS22.out _ _ _ b78 ch8 hb12 | with_reducible exact HS22.out _ _ _ b78 ch8 hb11 | with_reducible exact HS22.out _ _ _ b78 ch8 hb10 | with_reducible exact HS22.out _ _ _ b78 ch8 hb9 | with_reducible exact HS22.out _ _ _ b78 ch8 (Below.refl _ _) | exact HS220.out)
              (first | (go_at_call 22; refine HDO.out.mono ?_; rintro e w8 ⟨vo, O9, p9, rfl, hko, hE8, hC8, hp8⟩; (have b78 := hC8.blk HT7.out HBd.out; have ch8 := HCH7.out.trans hC8; have kg8 := (Row.frame Hg7.out hC8.fr (HE7.out.kl Hg7.out) : KL w8 _ _); have k78 := (Row.frame Hk7.out hC8.fr (HE7.out.kl Hk7.out) : KL w8 _ _))) | (go_at_call 24; have z2 := hkl.1; refine (same_rfl _ _ _ _ (hkk.keep hkl.2.2) z2).mono ?_; rintro e w12 ⟨rfl, hb12'⟩; have hb12 := hb11.trans (hb12'.mono hb11.size)) | (go_at_call 24; refine (same_rfl _ _ _ _ hko kg8).mono ?_; rintro e w9 ⟨rfl, hb9⟩) | (go_at_call 30; refine (ekeys_any px _ (hE8.keep hb9)).mono ?_; rintro e w10 ⟨vk, rfl, hkk, hb10'⟩; have hb10 := hb9.trans (hb10'.mono hb9.size)) | (go_at_call 101; refine (lrkeys_any s.c _ _ _ HLL.out (k78.keep hb10)).mono ?_; rintro e w11 ⟨vl, rfl, hkl⟩; have hb11 := hb10.trans (hkl.2.2.mono hb10.size)) | (go_at_call 34; refine (eghosts_any px _).mono ?_; rintro e w13' ⟨rfl, rfl⟩) | (go_at_call 102; refine (lrghosts_any _ _ _ _ _).mono ?_; rintro e w13 ⟨rfl, hb13'⟩; have hb13 := hb12.trans (hb13'.mono hb12.size)))
            have HE9 := Go.Lib.hid (hE8.keep hb13)
            have Hb9 := Go.Lib.hid (b78.keep hb13)
            have Hk9 := Go.Lib.hid (k78.keep hb13)
            have HC9 := Go.Lib.hid (ch8.below hb13)
            have hpp : p9 ≤ 14 := by have q1 := hp8; have q2 := HSO.out.hi; simp only at q1 q2; omega
            clear hb9 hb10 hb11 hb12 hb13 hb10' hb12' hb13' hko hE8 hC8 hp8 b78 ch8 kg8 k78 hkk hkl z2
            go_wp2_with fail
            go_roundw
            case rel => exact ⟨j + 1, ⟨s.c, (touchL s.l x.key)⟩, O9, p9, _, by omega, by go_num, HSO.out, hpp, HE9.out, Hb9.out, Hk9.out, HC9.out⟩
            case measure => simp [intOf]; omega
          · have B56 := ((Below.refl w5.heap.size w5).drew.trans hb6)
            have qv := hk6
            have qg := KL.nil w6
            have n7 := qv.ne qb (by decide)
            have m7 := qg.ne qb (by decide)
            have E6 := HE5.out.keep B56
            have t7 := E6.typ qb (by decide) (by decide)
            obtain ⟨W7, hW7⟩ : ∃ W7, W7 = (w6.setCell ⟨w3.heap.size, 0, none⟩ (.int .i64 s.c)).setCell ⟨w3.heap.size, 1, none⟩ (.slice a6 n6 cap6) := ⟨_, rfl⟩
            have F7 : Fr (fun k => k = w3.heap.size) w6 W7 := by rw [hW7]; exact ((Fr.refl (fun k => k = w3.heap.size) w6).setEq rfl _).setEq rfl _
            have b7 : Blk W7 w3.heap.size [.int .i64 s.c, .slice a6 n6 cap6] 39 := by rw [hW7]; exact (qb.set 0 _).set 1 _
            have k7 : KL W7 (.slice a6 n6 cap6) (touchL s.l x.key) := by rw [hW7]; exact (qv.set_ne n7 _).set_ne n7 _
            have g7 : KL W7 (.slice none 0 0) [] := by rw [hW7]; exact (qg.set_ne m7 _).set_ne m7 _
            have E7 : Ela W7 px O s.l s.c p := by
              obtain ⟨ps, O1, e1, e2, e3, e4⟩ := E6
              exact ⟨ps, O1, F7.blk (fun e => t7 (by rw [e4]; exact .inl e.symm)) e1, e2.frame F7 (fun k hk e => t7 (by rw [e4]; exact .inr (e ▸ hk))), e3, e4⟩
            have ch7 : Chg (fun _ => False) O w W7 := by
              have q := HCH5.out.below B56
              exact ⟨q.fr.trans F7 (fun i e => .inr (by show w.heap.size ≤ i; rw [e]; exact hwB)), q.own⟩
            have Dr := (Below.refl W7.heap.size W7).drew
            have hso : LS.ok (doS s x).1 := doS_ok HS.out HXO.out
            have HDO := Go.Lib.hid (do_any px s x W7.drew HXO.out ⟨HS.out.lo, by have := HS.out.hi; omega⟩ (by omega) (E7.keep Dr))
            rw [HD.out] at HDO hso
            have HSO := Go.Lib.hid hso
            have HS22 := Go.Lib.hid (fun (W8 W' : World) (O' : Nat → Prop) (b : Blk W8 w3.heap.size [.int .i64 s.c, .slice a6 n6 cap6] 39) (ch : Chg (fun _ => False) O' w W8) (hb : Below W8.heap.size W8 W') => (have q := HXC2.out O' W8 W' ch hb; (⟨(b.keep hb).cell 0, (b.keep hb).cell 1, q.1, q.2.1, q.2.2⟩ : W'.cell? ⟨w3.heap.size, 0, none⟩ = some (.int .i64 s.c) ∧ W'.cell? ⟨w3.heap.size, 1, none⟩ = some (.slice a6 n6 cap6) ∧ W'.cell? (ad.add (j * 3)) = some (.int .u8 x.kind) ∧ W'.cell? ⟨(ad.add (j * 3)).block, (ad.add (j * 3)).off + 1, none⟩ = some (.int .u64 x.key) ∧ W'.cell? ⟨(ad.add (j * 3)).block, (ad.add (j * 3)).off + 2, none⟩ = some (.int .u16 x.n))))
            have HS220 := Go.Lib.hid (HS22.out _ _ _ b7 ch7 Dr)
            have Hb7 := Go.Lib.hid b7
            have Hk7 := Go.Lib.hid (k7.keep Dr)
            have Hg7 := Go.Lib.hid (g7.keep Dr)
            have HE7 := Go.Lib.hid (E7.keep Dr)
            have HCH7 := Go.Lib.hid (ch7.below Dr)
            have HT7 := Go.Lib.hid ((E7.keep Dr).typ (b7.keep Dr) (by decide) (by decide))
            have HBd := Go.Lib.hid (b7.keep Dr)
            have l77 := b7.lt
            have hss := F7.size
            have hsz := B56.size
            have gab7 : (ad.add (j * 3)).block < W7.heap.size := by omega
            have HW7 := Go.Lib.hid hW7
            rw [← hW7]
            clear hW7 B56 qv qg n7 m7 E6 t7 F7 b7 k7 g7 E7 ch7 Dr hso
            clear hb6 hk6 qb r0 r1 y0 y1 rl c0 c1 q50 q51 q52
            go_wp2_with fail
            go_region_held3 (fun W' => W'.cell? ⟨w3.heap.size, 0, none⟩ = some (.int .i64 s.c) ∧ W'.cell? ⟨w3.heap.size, 1, none⟩ = some (.slice a6 n6 cap6) ∧ W'.cell? (ad.add (j * 3)) = some (.int .u8 x.kind) ∧ W'.cell? ⟨(ad.add (j * 3)).block, (ad.add (j * 3)).off + 1, none⟩ = some (.int .u64 x.key) ∧ W'.cell? ⟨(ad.add (j * 3)).block, (ad.add (j * 3)).off + 2, none⟩ = some (.int .u16 x.n))
              (first | with_reducible exact HS22.out _ _ _ b78 ch8 hb13 | with_reducible exact HS22.out _ _ _ b78 ch8 hb12 | with_reducible exact HS22.out _ _ _ b78 ch8 hb11 | with_reducible exact HS22.out _ _ _ b78 ch8 hb10 | with_reducible exact HS22.out _ _ _ b78 ch8 hb9 | with_reducible exact HS22.out _ _ _ b78 ch8 (Below.refl _ _) | exact HS220.out)
              (first | (go_at_call 22; refine HDO.out.mono ?_; rintro e w8 ⟨vo, O9, p9, rfl, hko, hE8, hC8, hp8⟩; (have b78 := hC8.blk HT7.out HBd.out; have ch8 := HCH7.out.trans hC8; have kg8 := (Row.frame Hg7.out hC8.fr (HE7.out.kl Hg7.out) : KL w8 _ _); have k78 := (Row.frame Hk7.out hC8.fr (HE7.out.kl Hk7.out) : KL w8 _ _))) | (go_at_call 24; have z2 := hkl.1; refine (same_rfl _ _ _ _ (hkk.keep hkl.2.2) z2).mono ?_; rintro e w12 ⟨rfl, hb12'⟩; have hb12 := hb11.trans (hb12'.mono hb11.size)) | (go_at_call 24; refine (same_rfl _ _ _ _ hko kg8).mono ?_; rintro e w9 ⟨rfl, hb9⟩) | (go_at_call 30; refine (ekeys_any px _ (hE8.keep hb9)).mono ?_; rintro e w10 ⟨vk, rfl, hkk, hb10'⟩; have hb10 := hb9.trans (hb10'.mono hb9.size)) | (go_at_call 101; refine (lrkeys_any s.c _ _ _ HLL.out (k78.keep hb10)).mono ?_; rintro e w11 ⟨vl, rfl, hkl⟩; have hb11 := hb10.trans (hkl.2.2.mono hb10.size)) | (go_at_call 34; refine (eghosts_any px _).mono ?_; rintro e w13' ⟨rfl, rfl⟩) | (go_at_call 102; refine (lrghosts_any _ _ _ _ _).mono ?_; rintro e w13 ⟨rfl, hb13'⟩; have hb13 := hb12.trans (hb13'.mono hb12.size)))
            have HE9 := Go.Lib.hid (hE8.keep hb13)
            have Hb9 := Go.Lib.hid (b78.keep hb13)
            have Hk9 := Go.Lib.hid (k78.keep hb13)
            have HC9 := Go.Lib.hid (ch8.below hb13)
            have hpp : p9 ≤ 14 := by have q1 := hp8; have q2 := HSO.out.hi; simp only at q1 q2; omega
            clear hb9 hb10 hb11 hb12 hb13 hb10' hb12' hb13' hko hE8 hC8 hp8 b78 ch8 kg8 k78 hkk hkl z2
            go_wp2_with fail
            go_roundw
            case rel => exact ⟨j + 1, ⟨s.c, (touchL s.l x.key)⟩, O9, p9, _, by omega, by go_num, HSO.out, hpp, HE9.out, Hb9.out, Hk9.out, HC9.out⟩
            case measure => simp [intOf]; omega
        rw [if_neg h1] at HD
        by_cases h2 : kd = 2
        · subst h2
          rw [if_pos rfl] at HD
          have S1 := fun W' (hb : Below w5.drew.heap.size w5.drew W') => (have q := HXC.out w5 W' HCH5.out ((Below.refl _ _).drew.trans hb); (⟨(HB75.out.keep ((Below.refl _ _).drew.trans hb)).cell 0, (HB75.out.keep ((Below.refl _ _).drew.trans hb)).cell 1, q.1, q.2.1, q.2.2⟩ : W'.cell? ⟨w3.heap.size, 0, none⟩ = some (.int .i64 s.c) ∧ W'.cell? ⟨w3.heap.size, 1, none⟩ = some (.slice a7 s.l.length cap7) ∧ W'.cell? (ad.add (j * 3)) = some (.int .u8 x.kind) ∧ W'.cell? ⟨(ad.add (j * 3)).block, (ad.add (j * 3)).off + 1, none⟩ = some (.int .u64 x.key) ∧ W'.cell? ⟨(ad.add (j * 3)).block, (ad.add (j * 3)).off + 2, none⟩ = some (.int .u16 x.n)))
          have S3 := fun W' u1 u2 (hb : Below w5.drew.heap.size w5.drew W') => S1 ((W'.setCell ⟨w5.heap.size, 0, none⟩ u1).setCell ⟨w5.heap.size, 1, none⟩ u2) (below_set (below_set hb (Nat.le_refl _) u1) (Nat.le_refl _) u2)
          have HS1 := Go.Lib.hid S1
          have HS3 := Go.Lib.hid S3
          have HS0 := Go.Lib.hid (S1 _ (Below.refl _ _))
          clear S1 S3
          have HRD := Go.Lib.hid (fun W (hb : Below w5.drew.heap.size w5.drew W) => admit_f s.c _ s.l x.key W HS.out.lo (by have := HS.out.hi; omega) hsl (HK75.out.keep ((Below.refl _ _).drew.trans hb)))
          have HLL : Hid ((admitL s.c s.l x.key).length < 50000) := Go.Lib.hid (by have := admitL_len s.c s.l x.key; omega)
          go_wp2_with fail
          go_region_held3 (fun W' => W'.cell? ⟨w3.heap.size, 0, none⟩ = some (.int .i64 s.c) ∧ W'.cell? ⟨w3.heap.size, 1, none⟩ = some (.slice a7 s.l.length cap7) ∧ W'.cell? (ad.add (j * 3)) = some (.int .u8 x.kind) ∧ W'.cell? ⟨(ad.add (j * 3)).block, (ad.add (j * 3)).off + 1, none⟩ = some (.int .u64 x.key) ∧ W'.cell? ⟨(ad.add (j * 3)).block, (ad.add (j * 3)).off + 2, none⟩ = some (.int .u16 x.n))
            (first | with_reducible exact HS1.out _ ((Below.refl _ _).alloc (Nat.le_refl _) _) | with_reducible exact HS1.out _ hb6' | with_reducible exact HS1.out _ (hb6'.alloc hb6'.size _) | with_reducible exact HS3.out _ _ _ hb6' | exact HS0.out)
            (first | (go_at_call 97; refine (HRD.out _ (by first | exact Below.refl _ _ | exact (Below.refl _ _).alloc (Nat.le_refl _) _)).mono ?_; rintro e w6 ⟨a6, n6, cap6, ag, ng, capg, rfl, hk6, hg6, hb6⟩; (have hb6' : Below w5.drew.heap.size w5.drew w6 := by first | exact hb6 | exact ((Below.refl _ _).alloc (Nat.le_refl _) _).trans (hb6.mono (by simp))); (try (have b10 := (Blk.new0 w5.drew [.int .i64 0, .slice none 0 0] 39).keep hb6; have d0 := b10.cell 0; have d1 := b10.cell 1; have y0 := b10.frozen 0; have y1 := b10.frozen 1; simp only [List.getElem?_cons_zero, List.getElem?_cons_succ, World.size_drew] at d0 d1 y0 y1; have l10 := b10.lt; (try simp only [World.size_drew] at l10)))))
          · have B56 : Below w5.heap.size w5 w6 := (Below.refl _ _).drew.trans hb6'
            obtain ⟨W6, hW6⟩ : ∃ W6, W6 = w6.alloc (Obj.cells #[Value.int IntKind.i64 s.c, Value.slice a6 n6 cap6] 39) := ⟨_, rfl⟩
            have B66 : Below w6.heap.size w6 W6 := by rw [hW6]; exact (Below.refl _ _).alloc (Nat.le_refl _) _
            have c10 : Blk W6 w6.heap.size [.int .i64 s.c, .slice a6 n6 cap6] 39 := by rw [hW6]; exact Blk.new0 w6 _ _
            have hB6 : Below w5.heap.size w5 W6 := B56.trans (B66.mono B56.size)
            have hBn : w3.heap.size < w6.heap.size := by have := B56.size; omega
            have k6 : KL W6 (.slice a6 n6 cap6) (admitL s.c s.l x.key) := hk6.keep B66
            have g6 : KL W6 (.slice ag ng capg) (admitO s.c s.l x.key) := hg6.keep B66
            rw [← hW6]
            clear hW6 B66 B56 hk6 hg6 hb6 hb6'
            generalize w6.heap.size = B10 at *
            have b7w := HB75.out.keep hB6
            have hne : w3.heap.size ≠ B10 := by omega
            have hne' : B10 ≠ w3.heap.size := hne.symm
            have d0 := c10.cell 0
            have d1 := c10.cell 1
            have d2 := b7w.cell 0
            have d3 := b7w.cell 1
            have y0 := b7w.frozen 0
            have y1 := b7w.frozen 1
            simp only [List.getElem?_cons_zero, List.getElem?_cons_succ] at d0 d1 d2 d3
            have l7 := b7w.lt
            have l10 := c10.lt
            have B56 := hB6
            have qv := k6
            have qg := g6
            have n7 := qv.ne b7w (by decide)
            have m7 := qg.ne b7w (by decide)
            have E6 := HE5.out.keep B56
            have t7 := E6.typ b7w (by decide) (by decide)
            obtain ⟨W7, hW7⟩ : ∃ W7, W7 = (W6.setCell ⟨w3.heap.size, 0, none⟩ (.int .i64 s.c)).setCell ⟨w3.heap.size, 1, none⟩ (.slice a6 n6 cap6) := ⟨_, rfl⟩
            have F7 : Fr (fun k => k = w3.heap.size) W6 W7 := by rw [hW7]; exact ((Fr.refl (fun k => k = w3.heap.size) W6).setEq rfl _).setEq rfl _
            have b7 : Blk W7 w3.heap.size [.int .i64 s.c, .slice a6 n6 cap6] 39 := by rw [hW7]; exact (b7w.set 0 _).set 1 _
            have k7 : KL W7 (.slice a6 n6 cap6) (admitL s.c s.l x.key) := by rw [hW7]; exact (qv.set_ne n7 _).set_ne n7 _
            have g7 : KL W7 (.slice ag ng capg) (admitO s.c s.l x.key) := by rw [hW7]; exact (qg.set_ne m7 _).set_ne m7 _
            have E7 : Ela W7 px O s.l s.c p := by
              obtain ⟨ps, O1, e1, e2, e3, e4⟩ := E6
              exact ⟨ps, O1, F7.blk (fun e => t7 (by rw [e4]; exact .inl e.symm)) e1, e2.frame F7 (fun k hk e => t7 (by rw [e4]; exact .inr (e ▸ hk))), e3, e4⟩
            have ch7 : Chg (fun _ => False) O w W7 := by
              have q := HCH5.out.below B56
              exact ⟨q.fr.trans F7 (fun i e => .inr (by show w.heap.size ≤ i; rw [e]; exact hwB)), q.own⟩
            have Dr := (Below.refl W7.heap.size W7).drew
            have hso : LS.ok (doS s x).1 := doS_ok HS.out HXO.out
            have HDO := Go.Lib.hid (do_any px s x W7.drew HXO.out ⟨HS.out.lo, by have := HS.out.hi; omega⟩ (by omega) (E7.keep Dr))
            rw [HD.out] at HDO hso
            have HSO := Go.Lib.hid hso
            have HS22 := Go.Lib.hid (fun (W8 W' : World) (O' : Nat → Prop) (b : Blk W8 w3.heap.size [.int .i64 s.c, .slice a6 n6 cap6] 39) (ch : Chg (fun _ => False) O' w W8) (hb : Below W8.heap.size W8 W') => (have q := HXC2.out O' W8 W' ch hb; (⟨(b.keep hb).cell 0, (b.keep hb).cell 1, q.1, q.2.1, q.2.2⟩ : W'.cell? ⟨w3.heap.size, 0, none⟩ = some (.int .i64 s.c) ∧ W'.cell? ⟨w3.heap.size, 1, none⟩ = some (.slice a6 n6 cap6) ∧ W'.cell? (ad.add (j * 3)) = some (.int .u8 x.kind) ∧ W'.cell? ⟨(ad.add (j * 3)).block, (ad.add (j * 3)).off + 1, none⟩ = some (.int .u64 x.key) ∧ W'.cell? ⟨(ad.add (j * 3)).block, (ad.add (j * 3)).off + 2, none⟩ = some (.int .u16 x.n))))
            have HS220 := Go.Lib.hid (HS22.out _ _ _ b7 ch7 Dr)
            have Hb7 := Go.Lib.hid b7
            have Hk7 := Go.Lib.hid (k7.keep Dr)
            have Hg7 := Go.Lib.hid (g7.keep Dr)
            have HE7 := Go.Lib.hid (E7.keep Dr)
            have HCH7 := Go.Lib.hid (ch7.below Dr)
            have HT7 := Go.Lib.hid ((E7.keep Dr).typ (b7.keep Dr) (by decide) (by decide))
            have HBd := Go.Lib.hid (b7.keep Dr)
            have l77 := b7.lt
            have hss := F7.size
            have hsz := B56.size
            have gab7 : (ad.add (j * 3)).block < W7.heap.size := by omega
            have HW7 := Go.Lib.hid hW7
            clear hW7 B56 qv qg n7 m7 E6 t7 F7 b7 k7 g7 E7 ch7 Dr hso
            clear hB6 b7w k6 g6 c10
            go_wp2_with fail
            rw [← HW7.out]
            clear d0 d1 d2 d3 y0 y1 l7 l10
            go_region_held3 (fun W' => W'.cell? ⟨w3.heap.size, 0, none⟩ = some (.int .i64 s.c) ∧ W'.cell? ⟨w3.heap.size, 1, none⟩ = some (.slice a6 n6 cap6) ∧ W'.cell? (ad.add (j * 3)) = some (.int .u8 x.kind) ∧ W'.cell? ⟨(ad.add (j * 3)).block, (ad.add (j * 3)).off + 1, none⟩ = some (.int .u64 x.key) ∧ W'.cell? ⟨(ad.add (j * 3)).block, (ad.add (j * 3)).off + 2, none⟩ = some (.int .u16 x.n))
              (first | with_reducible exact HS22.out _ _ _ b78 ch8 hb13 | with_reducible exact HS22.out _ _ _ b78 ch8 hb12 | with_reducible exact HS22.out _ _ _ b78 ch8 hb11 | with_reducible exact HS22.out _ _ _ b78 ch8 hb10 | with_reducible exact HS22.out _ _ _ b78 ch8 hb9 | with_reducible exact HS22.out _ _ _ b78 ch8 (Below.refl _ _) | exact HS220.out)
              (first | (go_at_call 22; refine HDO.out.mono ?_; rintro e w8 ⟨vo, O9, p9, rfl, hko, hE8, hC8, hp8⟩; (have b78 := hC8.blk HT7.out HBd.out; have ch8 := HCH7.out.trans hC8; have kg8 := (Row.frame Hg7.out hC8.fr (HE7.out.kl Hg7.out) : KL w8 _ _); have k78 := (Row.frame Hk7.out hC8.fr (HE7.out.kl Hk7.out) : KL w8 _ _))) | (go_at_call 24; have z2 := hkl.1; refine (same_rfl _ _ _ _ (hkk.keep hkl.2.2) z2).mono ?_; rintro e w12 ⟨rfl, hb12'⟩; have hb12 := hb11.trans (hb12'.mono hb11.size)) | (go_at_call 24; refine (same_rfl _ _ _ _ hko kg8).mono ?_; rintro e w9 ⟨rfl, hb9⟩) | (go_at_call 30; refine (ekeys_any px _ (hE8.keep hb9)).mono ?_; rintro e w10 ⟨vk, rfl, hkk, hb10'⟩; have hb10 := hb9.trans (hb10'.mono hb9.size)) | (go_at_call 101; refine (lrkeys_any s.c _ _ _ HLL.out (k78.keep hb10)).mono ?_; rintro e w11 ⟨vl, rfl, hkl⟩; have hb11 := hb10.trans (hkl.2.2.mono hb10.size)) | (go_at_call 34; refine (eghosts_any px _).mono ?_; rintro e w13' ⟨rfl, rfl⟩) | (go_at_call 102; refine (lrghosts_any _ _ _ _ _).mono ?_; rintro e w13 ⟨rfl, hb13'⟩; have hb13 := hb12.trans (hb13'.mono hb12.size)))
            have HE9 := Go.Lib.hid (hE8.keep hb13)
            have Hb9 := Go.Lib.hid (b78.keep hb13)
            have Hk9 := Go.Lib.hid (k78.keep hb13)
            have HC9 := Go.Lib.hid (ch8.below hb13)
            have hpp : p9 ≤ 14 := by have q1 := hp8; have q2 := HSO.out.hi; simp only at q1 q2; omega
            clear hb9 hb10 hb11 hb12 hb13 hb10' hb12' hb13' hko hE8 hC8 hp8 b78 ch8 kg8 k78 hkk hkl z2
            go_wp2_with fail
            go_roundw
            case rel => exact ⟨j + 1, ⟨s.c, (admitL s.c s.l x.key)⟩, O9, p9, _, by omega, by go_num, HSO.out, hpp, HE9.out, Hb9.out, Hk9.out, HC9.out⟩
            case measure => simp [intOf]; omega
          · have B56 : Below w5.heap.size w5 w6 := (Below.refl _ _).drew.trans hb6'
            have n10 := hk6.ne b10 (by decide)
            have m10 := hg6.ne b10 (by decide)
            obtain ⟨W6, hW6⟩ : ∃ W6, W6 = (w6.setCell ⟨w5.heap.size, 0, none⟩ (Value.int IntKind.i64 s.c)).setCell ⟨w5.heap.size, 1, none⟩ (Value.slice a6 n6 cap6) := ⟨_, rfl⟩
            have hB6 : Below w5.heap.size w5 W6 := by rw [hW6]; exact below_set (below_set B56 (Nat.le_refl _) _) (Nat.le_refl _) _
            have c10 : Blk W6 w5.heap.size [.int .i64 s.c, .slice a6 n6 cap6] 39 := by rw [hW6]; exact (b10.set 0 _).set 1 _
            have k6 : KL W6 (.slice a6 n6 cap6) (admitL s.c s.l x.key) := by rw [hW6]; exact (hk6.set_ne n10 _).set_ne n10 _
            have g6 : KL W6 (.slice ag ng capg) (admitO s.c s.l x.key) := by rw [hW6]; exact (hg6.set_ne m10 _).set_ne m10 _
            have hBn : w3.heap.size < w5.heap.size := by exact l75
            rw [← hW6]
            clear hW6 B56 hk6 hg6 hb6 hb6' b10 d0 d1 y0 y1 l10 n10 m10
            generalize hBB : w5.heap.size = B10 at c10 hBn ⊢
            clear hBB
            have b7w := HB75.out.keep hB6
            have hne : w3.heap.size ≠ B10 := by omega
            have hne' : B10 ≠ w3.heap.size := hne.symm
            have d0 := c10.cell 0
            have d1 := c10.cell 1
            have d2 := b7w.cell 0
            have d3 := b7w.cell 1
            have y0 := b7w.frozen 0
            have y1 := b7w.frozen 1
            simp only [List.getElem?_cons_zero, List.getElem?_cons_succ] at d0 d1 d2 d3
            have l7 := b7w.lt
            have l10 := c10.lt
            have B56 := hB6
            have qv := k6
            have qg := g6
            have n7 := qv.ne b7w (by decide)
            have m7 := qg.ne b7w (by decide)
            have E6 := HE5.out.keep B56
            have t7 := E6.typ b7w (by decide) (by decide)
            obtain ⟨W7, hW7⟩ : ∃ W7, W7 = (W6.setCell ⟨w3.heap.size, 0, none⟩ (.int .i64 s.c)).setCell ⟨w3.heap.size, 1, none⟩ (.slice a6 n6 cap6) := ⟨_, rfl⟩
            have F7 : Fr (fun k => k = w3.heap.size) W6 W7 := by rw [hW7]; exact ((Fr.refl (fun k => k = w3.heap.size) W6).setEq rfl _).setEq rfl _
            have b7 : Blk W7 w3.heap.size [.int .i64 s.c, .slice a6 n6 cap6] 39 := by rw [hW7]; exact (b7w.set 0 _).set 1 _
            have k7 : KL W7 (.slice a6 n6 cap6) (admitL s.c s.l x.key) := by rw [hW7]; exact (qv.set_ne n7 _).set_ne n7 _
            have g7 : KL W7 (.slice ag ng capg) (admitO s.c s.l x.key) := by rw [hW7]; exact (qg.set_ne m7 _).set_ne m7 _
            have E7 : Ela W7 px O s.l s.c p := by
              obtain ⟨ps, O1, e1, e2, e3, e4⟩ := E6
              exact ⟨ps, O1, F7.blk (fun e => t7 (by rw [e4]; exact .inl e.symm)) e1, e2.frame F7 (fun k hk e => t7 (by rw [e4]; exact .inr (e ▸ hk))), e3, e4⟩
            have ch7 : Chg (fun _ => False) O w W7 := by
              have q := HCH5.out.below B56
              exact ⟨q.fr.trans F7 (fun i e => .inr (by show w.heap.size ≤ i; rw [e]; exact hwB)), q.own⟩
            have Dr := (Below.refl W7.heap.size W7).drew
            have hso : LS.ok (doS s x).1 := doS_ok HS.out HXO.out
            have HDO := Go.Lib.hid (do_any px s x W7.drew HXO.out ⟨HS.out.lo, by have := HS.out.hi; omega⟩ (by omega) (E7.keep Dr))
            rw [HD.out] at HDO hso
            have HSO := Go.Lib.hid hso
            have HS22 := Go.Lib.hid (fun (W8 W' : World) (O' : Nat → Prop) (b : Blk W8 w3.heap.size [.int .i64 s.c, .slice a6 n6 cap6] 39) (ch : Chg (fun _ => False) O' w W8) (hb : Below W8.heap.size W8 W') => (have q := HXC2.out O' W8 W' ch hb; (⟨(b.keep hb).cell 0, (b.keep hb).cell 1, q.1, q.2.1, q.2.2⟩ : W'.cell? ⟨w3.heap.size, 0, none⟩ = some (.int .i64 s.c) ∧ W'.cell? ⟨w3.heap.size, 1, none⟩ = some (.slice a6 n6 cap6) ∧ W'.cell? (ad.add (j * 3)) = some (.int .u8 x.kind) ∧ W'.cell? ⟨(ad.add (j * 3)).block, (ad.add (j * 3)).off + 1, none⟩ = some (.int .u64 x.key) ∧ W'.cell? ⟨(ad.add (j * 3)).block, (ad.add (j * 3)).off + 2, none⟩ = some (.int .u16 x.n))))
            have HS220 := Go.Lib.hid (HS22.out _ _ _ b7 ch7 Dr)
            have Hb7 := Go.Lib.hid b7
            have Hk7 := Go.Lib.hid (k7.keep Dr)
            have Hg7 := Go.Lib.hid (g7.keep Dr)
            have HE7 := Go.Lib.hid (E7.keep Dr)
            have HCH7 := Go.Lib.hid (ch7.below Dr)
            have HT7 := Go.Lib.hid ((E7.keep Dr).typ (b7.keep Dr) (by decide) (by decide))
            have HBd := Go.Lib.hid (b7.keep Dr)
            have l77 := b7.lt
            have hss := F7.size
            have hsz := B56.size
            have gab7 : (ad.add (j * 3)).block < W7.heap.size := by omega
            have HW7 := Go.Lib.hid hW7
            clear hW7 B56 qv qg n7 m7 E6 t7 F7 b7 k7 g7 E7 ch7 Dr hso
            clear hB6 b7w k6 g6 c10
            go_wp2_with fail
            rw [← HW7.out]
            clear d0 d1 d2 d3 y0 y1 l7 l10
            go_region_held3 (fun W' => W'.cell? ⟨w3.heap.size, 0, none⟩ = some (.int .i64 s.c) ∧ W'.cell? ⟨w3.heap.size, 1, none⟩ = some (.slice a6 n6 cap6) ∧ W'.cell? (ad.add (j * 3)) = some (.int .u8 x.kind) ∧ W'.cell? ⟨(ad.add (j * 3)).block, (ad.add (j * 3)).off + 1, none⟩ = some (.int .u64 x.key) ∧ W'.cell? ⟨(ad.add (j * 3)).block, (ad.add (j * 3)).off + 2, none⟩ = some (.int .u16 x.n))
              (first | with_reducible exact HS22.out _ _ _ b78 ch8 hb13 | with_reducible exact HS22.out _ _ _ b78 ch8 hb12 | with_reducible exact HS22.out _ _ _ b78 ch8 hb11 | with_reducible exact HS22.out _ _ _ b78 ch8 hb10 | with_reducible exact HS22.out _ _ _ b78 ch8 hb9 | with_reducible exact HS22.out _ _ _ b78 ch8 (Below.refl _ _) | exact HS220.out)
              (first | (go_at_call 22; refine HDO.out.mono ?_; rintro e w8 ⟨vo, O9, p9, rfl, hko, hE8, hC8, hp8⟩; (have b78 := hC8.blk HT7.out HBd.out; have ch8 := HCH7.out.trans hC8; have kg8 := (Row.frame Hg7.out hC8.fr (HE7.out.kl Hg7.out) : KL w8 _ _); have k78 := (Row.frame Hk7.out hC8.fr (HE7.out.kl Hk7.out) : KL w8 _ _))) | (go_at_call 24; have z2 := hkl.1; refine (same_rfl _ _ _ _ (hkk.keep hkl.2.2) z2).mono ?_; rintro e w12 ⟨rfl, hb12'⟩; have hb12 := hb11.trans (hb12'.mono hb11.size)) | (go_at_call 24; refine (same_rfl _ _ _ _ hko kg8).mono ?_; rintro e w9 ⟨rfl, hb9⟩) | (go_at_call 30; refine (ekeys_any px _ (hE8.keep hb9)).mono ?_; rintro e w10 ⟨vk, rfl, hkk, hb10'⟩; have hb10 := hb9.trans (hb10'.mono hb9.size)) | (go_at_call 101; refine (lrkeys_any s.c _ _ _ HLL.out (k78.keep hb10)).mono ?_; rintro e w11 ⟨vl, rfl, hkl⟩; have hb11 := hb10.trans (hkl.2.2.mono hb10.size)) | (go_at_call 34; refine (eghosts_any px _).mono ?_; rintro e w13' ⟨rfl, rfl⟩) | (go_at_call 102; refine (lrghosts_any _ _ _ _ _).mono ?_; rintro e w13 ⟨rfl, hb13'⟩; have hb13 := hb12.trans (hb13'.mono hb12.size)))
            have HE9 := Go.Lib.hid (hE8.keep hb13)
            have Hb9 := Go.Lib.hid (b78.keep hb13)
            have Hk9 := Go.Lib.hid (k78.keep hb13)
            have HC9 := Go.Lib.hid (ch8.below hb13)
            have hpp : p9 ≤ 14 := by have q1 := hp8; have q2 := HSO.out.hi; simp only at q1 q2; omega
            clear hb9 hb10 hb11 hb12 hb13 hb10' hb12' hb13' hko hE8 hC8 hp8 b78 ch8 kg8 k78 hkk hkl z2
            go_wp2_with fail
            go_roundw
            case rel => exact ⟨j + 1, ⟨s.c, (admitL s.c s.l x.key)⟩, O9, p9, _, by omega, by go_num, HSO.out, hpp, HE9.out, Hb9.out, Hk9.out, HC9.out⟩
            case measure => simp [intOf]; omega
        rw [if_neg h2] at HD
        by_cases h3 : kd = 3
        · subst h3
          rw [if_pos rfl] at HD
          have q5 := HXC.out w5 w5.drew HCH5.out (Below.refl _ _).drew
          obtain ⟨q50, q51, q52⟩ := q5
          have c0 : w5.drew.cell? ⟨w3.heap.size, 0, none⟩ = some (.int .i64 s.c) := HB75.out.cell 0
          have c1 : w5.drew.cell? ⟨w3.heap.size, 1, none⟩ = some (.slice a7 s.l.length cap7) := HB75.out.cell 1
          have HT := Go.Lib.hid (drop_f s.c _ s.l x.key w5.drew hsl (HK75.out.keep (Below.refl _ _).drew))
          have HLL : Hid ((wo s.l x.key).length < 50000) := Go.Lib.hid (by have q := wo_len s.l x.key; omega)
          go_wp2_with fail
          go_region_with (go_at_call 98; refine HT.out.mono ?_; rintro e w6 ⟨a6, n6, cap6, rfl, hk6, hb6⟩; (have qb := HB75.out.drew.keep hb6; have r0 := qb.cell 0; have r1 := qb.cell 1; have y0 := qb.frozen 0; have y1 := qb.frozen 1); simp only [List.getElem?_cons_zero, List.getElem?_cons_succ] at r0 r1; have rl := qb.lt)
          · have B56 := ((Below.refl w5.heap.size w5).drew.trans hb6)
            have qv := hk6
            have qg := KL.nil w6
            have n7 := qv.ne qb (by decide)
            have m7 := qg.ne qb (by decide)
            have E6 := HE5.out.keep B56
            have t7 := E6.typ qb (by decide) (by decide)
            obtain ⟨W7, hW7⟩ : ∃ W7, W7 = (w6.setCell ⟨w3.heap.size, 0, none⟩ (.int .i64 s.c)).setCell ⟨w3.heap.size, 1, none⟩ (.slice a6 n6 cap6) := ⟨_, rfl⟩
            have F7 : Fr (fun k => k = w3.heap.size) w6 W7 := by rw [hW7]; exact ((Fr.refl (fun k => k = w3.heap.size) w6).setEq rfl _).setEq rfl _
            have b7 : Blk W7 w3.heap.size [.int .i64 s.c, .slice a6 n6 cap6] 39 := by rw [hW7]; exact (qb.set 0 _).set 1 _
            have k7 : KL W7 (.slice a6 n6 cap6) (wo s.l x.key) := by rw [hW7]; exact (qv.set_ne n7 _).set_ne n7 _
            have g7 : KL W7 (.slice none 0 0) [] := by rw [hW7]; exact (qg.set_ne m7 _).set_ne m7 _
            have E7 : Ela W7 px O s.l s.c p := by
              obtain ⟨ps, O1, e1, e2, e3, e4⟩ := E6
              exact ⟨ps, O1, F7.blk (fun e => t7 (by rw [e4]; exact .inl e.symm)) e1, e2.frame F7 (fun k hk e => t7 (by rw [e4]; exact .inr (e ▸ hk))), e3, e4⟩
            have ch7 : Chg (fun _ => False) O w W7 := by
              have q := HCH5.out.below B56
              exact ⟨q.fr.trans F7 (fun i e => .inr (by show w.heap.size ≤ i; rw [e]; exact hwB)), q.own⟩
            have Dr := (Below.refl W7.heap.size W7).drew
            have hso : LS.ok (doS s x).1 := doS_ok HS.out HXO.out
            have HDO := Go.Lib.hid (do_any px s x W7.drew HXO.out ⟨HS.out.lo, by have := HS.out.hi; omega⟩ (by omega) (E7.keep Dr))
            rw [HD.out] at HDO hso
            have HSO := Go.Lib.hid hso
            have HS22 := Go.Lib.hid (fun (W8 W' : World) (O' : Nat → Prop) (b : Blk W8 w3.heap.size [.int .i64 s.c, .slice a6 n6 cap6] 39) (ch : Chg (fun _ => False) O' w W8) (hb : Below W8.heap.size W8 W') => (have q := HXC2.out O' W8 W' ch hb; (⟨(b.keep hb).cell 0, (b.keep hb).cell 1, q.1, q.2.1, q.2.2⟩ : W'.cell? ⟨w3.heap.size, 0, none⟩ = some (.int .i64 s.c) ∧ W'.cell? ⟨w3.heap.size, 1, none⟩ = some (.slice a6 n6 cap6) ∧ W'.cell? (ad.add (j * 3)) = some (.int .u8 x.kind) ∧ W'.cell? ⟨(ad.add (j * 3)).block, (ad.add (j * 3)).off + 1, none⟩ = some (.int .u64 x.key) ∧ W'.cell? ⟨(ad.add (j * 3)).block, (ad.add (j * 3)).off + 2, none⟩ = some (.int .u16 x.n))))
            have HS220 := Go.Lib.hid (HS22.out _ _ _ b7 ch7 Dr)
            have Hb7 := Go.Lib.hid b7
            have Hk7 := Go.Lib.hid (k7.keep Dr)
            have Hg7 := Go.Lib.hid (g7.keep Dr)
            have HE7 := Go.Lib.hid (E7.keep Dr)
            have HCH7 := Go.Lib.hid (ch7.below Dr)
            have HT7 := Go.Lib.hid ((E7.keep Dr).typ (b7.keep Dr) (by decide) (by decide))
            have HBd := Go.Lib.hid (b7.keep Dr)
            have l77 := b7.lt
            have hss := F7.size
            have hsz := B56.size
            have gab7 : (ad.add (j * 3)).block < W7.heap.size := by omega
            have HW7 := Go.Lib.hid hW7
            rw [← hW7]
            clear hW7 B56 qv qg n7 m7 E6 t7 F7 b7 k7 g7 E7 ch7 Dr hso
            clear hb6 hk6 qb r0 r1 y0 y1 rl c0 c1 q50 q51 q52
            go_wp2_with fail
            go_region_held3 (fun W' => W'.cell? ⟨w3.heap.size, 0, none⟩ = some (.int .i64 s.c) ∧ W'.cell? ⟨w3.heap.size, 1, none⟩ = some (.slice a6 n6 cap6) ∧ W'.cell? (ad.add (j * 3)) = some (.int .u8 x.kind) ∧ W'.cell? ⟨(ad.add (j * 3)).block, (ad.add (j * 3)).off + 1, none⟩ = some (.int .u64 x.key) ∧ W'.cell? ⟨(ad.add (j * 3)).block, (ad.add (j * 3)).off + 2, none⟩ = some (.int .u16 x.n))
              (first | with_reducible exact HS22.out _ _ _ b78 ch8 hb13 | with_reducible exact HS22.out _ _ _ b78 ch8 hb12 | with_reducible exact HS22.out _ _ _ b78 ch8 hb11 | with_reducible exact HS22.out _ _ _ b78 ch8 hb10 | with_reducible exact HS22.out _ _ _ b78 ch8 hb9 | with_reducible exact HS22.out _ _ _ b78 ch8 (Below.refl _ _) | exact HS220.out)
              (first | (go_at_call 22; refine HDO.out.mono ?_; rintro e w8 ⟨vo, O9, p9, rfl, hko, hE8, hC8, hp8⟩; (have b78 := hC8.blk HT7.out HBd.out; have ch8 := HCH7.out.trans hC8; have kg8 := (Row.frame Hg7.out hC8.fr (HE7.out.kl Hg7.out) : KL w8 _ _); have k78 := (Row.frame Hk7.out hC8.fr (HE7.out.kl Hk7.out) : KL w8 _ _))) | (go_at_call 24; have z2 := hkl.1; refine (same_rfl _ _ _ _ (hkk.keep hkl.2.2) z2).mono ?_; rintro e w12 ⟨rfl, hb12'⟩; have hb12 := hb11.trans (hb12'.mono hb11.size)) | (go_at_call 24; refine (same_rfl _ _ _ _ hko kg8).mono ?_; rintro e w9 ⟨rfl, hb9⟩) | (go_at_call 30; refine (ekeys_any px _ (hE8.keep hb9)).mono ?_; rintro e w10 ⟨vk, rfl, hkk, hb10'⟩; have hb10 := hb9.trans (hb10'.mono hb9.size)) | (go_at_call 101; refine (lrkeys_any s.c _ _ _ HLL.out (k78.keep hb10)).mono ?_; rintro e w11 ⟨vl, rfl, hkl⟩; have hb11 := hb10.trans (hkl.2.2.mono hb10.size)) | (go_at_call 34; refine (eghosts_any px _).mono ?_; rintro e w13' ⟨rfl, rfl⟩) | (go_at_call 102; refine (lrghosts_any _ _ _ _ _).mono ?_; rintro e w13 ⟨rfl, hb13'⟩; have hb13 := hb12.trans (hb13'.mono hb12.size)))
            have HE9 := Go.Lib.hid (hE8.keep hb13)
            have Hb9 := Go.Lib.hid (b78.keep hb13)
            have Hk9 := Go.Lib.hid (k78.keep hb13)
            have HC9 := Go.Lib.hid (ch8.below hb13)
            have hpp : p9 ≤ 14 := by have q1 := hp8; have q2 := HSO.out.hi; simp only at q1 q2; omega
            clear hb9 hb10 hb11 hb12 hb13 hb10' hb12' hb13' hko hE8 hC8 hp8 b78 ch8 kg8 k78 hkk hkl z2
            go_wp2_with fail
            go_roundw
            case rel => exact ⟨j + 1, ⟨s.c, (wo s.l x.key)⟩, O9, p9, _, by omega, by go_num, HSO.out, hpp, HE9.out, Hb9.out, Hk9.out, HC9.out⟩
            case measure => simp [intOf]; omega
          · have B56 := ((Below.refl w5.heap.size w5).drew.trans hb6)
            have qv := hk6
            have qg := KL.nil w6
            have n7 := qv.ne qb (by decide)
            have m7 := qg.ne qb (by decide)
            have E6 := HE5.out.keep B56
            have t7 := E6.typ qb (by decide) (by decide)
            obtain ⟨W7, hW7⟩ : ∃ W7, W7 = (w6.setCell ⟨w3.heap.size, 0, none⟩ (.int .i64 s.c)).setCell ⟨w3.heap.size, 1, none⟩ (.slice a6 n6 cap6) := ⟨_, rfl⟩
            have F7 : Fr (fun k => k = w3.heap.size) w6 W7 := by rw [hW7]; exact ((Fr.refl (fun k => k = w3.heap.size) w6).setEq rfl _).setEq rfl _
            have b7 : Blk W7 w3.heap.size [.int .i64 s.c, .slice a6 n6 cap6] 39 := by rw [hW7]; exact (qb.set 0 _).set 1 _
            have k7 : KL W7 (.slice a6 n6 cap6) (wo s.l x.key) := by rw [hW7]; exact (qv.set_ne n7 _).set_ne n7 _
            have g7 : KL W7 (.slice none 0 0) [] := by rw [hW7]; exact (qg.set_ne m7 _).set_ne m7 _
            have E7 : Ela W7 px O s.l s.c p := by
              obtain ⟨ps, O1, e1, e2, e3, e4⟩ := E6
              exact ⟨ps, O1, F7.blk (fun e => t7 (by rw [e4]; exact .inl e.symm)) e1, e2.frame F7 (fun k hk e => t7 (by rw [e4]; exact .inr (e ▸ hk))), e3, e4⟩
            have ch7 : Chg (fun _ => False) O w W7 := by
              have q := HCH5.out.below B56
              exact ⟨q.fr.trans F7 (fun i e => .inr (by show w.heap.size ≤ i; rw [e]; exact hwB)), q.own⟩
            have Dr := (Below.refl W7.heap.size W7).drew
            have hso : LS.ok (doS s x).1 := doS_ok HS.out HXO.out
            have HDO := Go.Lib.hid (do_any px s x W7.drew HXO.out ⟨HS.out.lo, by have := HS.out.hi; omega⟩ (by omega) (E7.keep Dr))
            rw [HD.out] at HDO hso
            have HSO := Go.Lib.hid hso
            have HS22 := Go.Lib.hid (fun (W8 W' : World) (O' : Nat → Prop) (b : Blk W8 w3.heap.size [.int .i64 s.c, .slice a6 n6 cap6] 39) (ch : Chg (fun _ => False) O' w W8) (hb : Below W8.heap.size W8 W') => (have q := HXC2.out O' W8 W' ch hb; (⟨(b.keep hb).cell 0, (b.keep hb).cell 1, q.1, q.2.1, q.2.2⟩ : W'.cell? ⟨w3.heap.size, 0, none⟩ = some (.int .i64 s.c) ∧ W'.cell? ⟨w3.heap.size, 1, none⟩ = some (.slice a6 n6 cap6) ∧ W'.cell? (ad.add (j * 3)) = some (.int .u8 x.kind) ∧ W'.cell? ⟨(ad.add (j * 3)).block, (ad.add (j * 3)).off + 1, none⟩ = some (.int .u64 x.key) ∧ W'.cell? ⟨(ad.add (j * 3)).block, (ad.add (j * 3)).off + 2, none⟩ = some (.int .u16 x.n))))
            have HS220 := Go.Lib.hid (HS22.out _ _ _ b7 ch7 Dr)
            have Hb7 := Go.Lib.hid b7
            have Hk7 := Go.Lib.hid (k7.keep Dr)
            have Hg7 := Go.Lib.hid (g7.keep Dr)
            have HE7 := Go.Lib.hid (E7.keep Dr)
            have HCH7 := Go.Lib.hid (ch7.below Dr)
            have HT7 := Go.Lib.hid ((E7.keep Dr).typ (b7.keep Dr) (by decide) (by decide))
            have HBd := Go.Lib.hid (b7.keep Dr)
            have l77 := b7.lt
            have hss := F7.size
            have hsz := B56.size
            have gab7 : (ad.add (j * 3)).block < W7.heap.size := by omega
            have HW7 := Go.Lib.hid hW7
            rw [← hW7]
            clear hW7 B56 qv qg n7 m7 E6 t7 F7 b7 k7 g7 E7 ch7 Dr hso
            clear hb6 hk6 qb r0 r1 y0 y1 rl c0 c1 q50 q51 q52
            go_wp2_with fail
            go_region_held3 (fun W' => W'.cell? ⟨w3.heap.size, 0, none⟩ = some (.int .i64 s.c) ∧ W'.cell? ⟨w3.heap.size, 1, none⟩ = some (.slice a6 n6 cap6) ∧ W'.cell? (ad.add (j * 3)) = some (.int .u8 x.kind) ∧ W'.cell? ⟨(ad.add (j * 3)).block, (ad.add (j * 3)).off + 1, none⟩ = some (.int .u64 x.key) ∧ W'.cell? ⟨(ad.add (j * 3)).block, (ad.add (j * 3)).off + 2, none⟩ = some (.int .u16 x.n))
              (first | with_reducible exact HS22.out _ _ _ b78 ch8 hb13 | with_reducible exact HS22.out _ _ _ b78 ch8 hb12 | with_reducible exact HS22.out _ _ _ b78 ch8 hb11 | with_reducible exact HS22.out _ _ _ b78 ch8 hb10 | with_reducible exact HS22.out _ _ _ b78 ch8 hb9 | with_reducible exact HS22.out _ _ _ b78 ch8 (Below.refl _ _) | exact HS220.out)
              (first | (go_at_call 22; refine HDO.out.mono ?_; rintro e w8 ⟨vo, O9, p9, rfl, hko, hE8, hC8, hp8⟩; (have b78 := hC8.blk HT7.out HBd.out; have ch8 := HCH7.out.trans hC8; have kg8 := (Row.frame Hg7.out hC8.fr (HE7.out.kl Hg7.out) : KL w8 _ _); have k78 := (Row.frame Hk7.out hC8.fr (HE7.out.kl Hk7.out) : KL w8 _ _))) | (go_at_call 24; have z2 := hkl.1; refine (same_rfl _ _ _ _ (hkk.keep hkl.2.2) z2).mono ?_; rintro e w12 ⟨rfl, hb12'⟩; have hb12 := hb11.trans (hb12'.mono hb11.size)) | (go_at_call 24; refine (same_rfl _ _ _ _ hko kg8).mono ?_; rintro e w9 ⟨rfl, hb9⟩) | (go_at_call 30; refine (ekeys_any px _ (hE8.keep hb9)).mono ?_; rintro e w10 ⟨vk, rfl, hkk, hb10'⟩; have hb10 := hb9.trans (hb10'.mono hb9.size)) | (go_at_call 101; refine (lrkeys_any s.c _ _ _ HLL.out (k78.keep hb10)).mono ?_; rintro e w11 ⟨vl, rfl, hkl⟩; have hb11 := hb10.trans (hkl.2.2.mono hb10.size)) | (go_at_call 34; refine (eghosts_any px _).mono ?_; rintro e w13' ⟨rfl, rfl⟩) | (go_at_call 102; refine (lrghosts_any _ _ _ _ _).mono ?_; rintro e w13 ⟨rfl, hb13'⟩; have hb13 := hb12.trans (hb13'.mono hb12.size)))
            have HE9 := Go.Lib.hid (hE8.keep hb13)
            have Hb9 := Go.Lib.hid (b78.keep hb13)
            have Hk9 := Go.Lib.hid (k78.keep hb13)
            have HC9 := Go.Lib.hid (ch8.below hb13)
            have hpp : p9 ≤ 14 := by have q1 := hp8; have q2 := HSO.out.hi; simp only at q1 q2; omega
            clear hb9 hb10 hb11 hb12 hb13 hb10' hb12' hb13' hko hE8 hC8 hp8 b78 ch8 kg8 k78 hkk hkl z2
            go_wp2_with fail
            go_roundw
            case rel => exact ⟨j + 1, ⟨s.c, (wo s.l x.key)⟩, O9, p9, _, by omega, by go_num, HSO.out, hpp, HE9.out, Hb9.out, Hk9.out, HC9.out⟩
            case measure => simp [intOf]; omega
        rw [if_neg h3] at HD
        have S1 := fun W' (hb : Below w5.drew.heap.size w5.drew W') => (have q := HXC.out w5 W' HCH5.out ((Below.refl _ _).drew.trans hb); (⟨(HB75.out.keep ((Below.refl _ _).drew.trans hb)).cell 0, (HB75.out.keep ((Below.refl _ _).drew.trans hb)).cell 1, q.1, q.2.1, q.2.2⟩ : W'.cell? ⟨w3.heap.size, 0, none⟩ = some (.int .i64 s.c) ∧ W'.cell? ⟨w3.heap.size, 1, none⟩ = some (.slice a7 s.l.length cap7) ∧ W'.cell? (ad.add (j * 3)) = some (.int .u8 x.kind) ∧ W'.cell? ⟨(ad.add (j * 3)).block, (ad.add (j * 3)).off + 1, none⟩ = some (.int .u64 x.key) ∧ W'.cell? ⟨(ad.add (j * 3)).block, (ad.add (j * 3)).off + 2, none⟩ = some (.int .u16 x.n)))
        have S3 := fun W' u1 u2 (hb : Below w5.drew.heap.size w5.drew W') => S1 ((W'.setCell ⟨w5.heap.size, 0, none⟩ u1).setCell ⟨w5.heap.size, 1, none⟩ u2) (below_set (below_set hb (Nat.le_refl _) u1) (Nat.le_refl _) u2)
        have S3g := fun W' B u1 u2 (hb : Below w5.drew.heap.size w5.drew W') (hB : w5.drew.heap.size ≤ B) => S1 ((W'.setCell ⟨B, 0, none⟩ u1).setCell ⟨B, 1, none⟩ u2) (below_set (below_set hb hB u1) hB u2)
        have HS1 := Go.Lib.hid S1
        have HS3 := Go.Lib.hid S3
        have HS0 := Go.Lib.hid (S1 _ (Below.refl _ _))
        have HS3g := Go.Lib.hid S3g
        clear S1 S3 S3g
        have hsz := sizeF_in HXO.out.2.2.1
        have HRD := Go.Lib.hid (fun W (hb : Below w5.drew.heap.size w5.drew W) => resize_f s.c (sizeF x.n) _ s.l W (by omega) (by omega) hsl (HK75.out.keep ((Below.refl _ _).drew.trans hb)))
        have HSZ := Go.Lib.hid (fun w => sizeof_any x.kind x.key x.n w HXO.out.2.2)
        have HLL : Hid ((s.l.take (capF (sizeF x.n)).toNat).length < 50000) := Go.Lib.hid (by rw [List.length_take]; omega)
        clear hsz
        go_wp2_with fail
        go_region_held3 (fun W' => W'.cell? ⟨w3.heap.size, 0, none⟩ = some (.int .i64 s.c) ∧ W'.cell? ⟨w3.heap.size, 1, none⟩ = some (.slice a7 s.l.length cap7) ∧ W'.cell? (ad.add (j * 3)) = some (.int .u8 x.kind) ∧ W'.cell? ⟨(ad.add (j * 3)).block, (ad.add (j * 3)).off + 1, none⟩ = some (.int .u64 x.key) ∧ W'.cell? ⟨(ad.add (j * 3)).block, (ad.add (j * 3)).off + 2, none⟩ = some (.int .u16 x.n))
          (first | with_reducible exact HS1.out _ ((Below.refl _ _).alloc (Nat.le_refl _) _) | with_reducible exact HS1.out _ hb6' | with_reducible exact HS1.out _ (hb6'.alloc hb6'.size _) | with_reducible exact HS3.out _ _ _ hb6' | with_reducible exact HS3g.out _ _ _ _ hb6' hbz'.size | with_reducible exact HS1.out _ hbz' | with_reducible exact HS1.out _ (hbz'.alloc hbz'.size _) | exact HS0.out)
          (first | (go_at_call 100; refine (HSZ.out _).mono ?_; rintro e wz ⟨rfl, hbz⟩; (have hbz' : Below w5.drew.heap.size w5.drew wz := by first | exact hbz | exact ((Below.refl _ _).alloc (Nat.le_refl _) _).trans (hbz.mono (by simp))); (try (have bz := (Blk.new0 w5.drew [.int .i64 0, .slice none 0 0] 39).keep hbz))) | (go_at_call 99; refine (HRD.out _ (by first | exact hbz' | exact hbz'.alloc hbz'.size _)).mono ?_; rintro e w6 ⟨a6, n6, cap6, ag, ng, capg, rfl, hk6, hg6, hb6⟩; (have hb6' : Below w5.drew.heap.size w5.drew w6 := by first | exact hbz'.trans (hb6.mono hbz'.size) | exact (hbz'.alloc hbz'.size _).trans (hb6.mono (by have := hbz'.size; simp at *; omega))); (first | (have b10 := bz.keep hb6; have d0 := b10.cell 0; have d1 := b10.cell 1; have y0 := b10.frozen 0; have y1 := b10.frozen 1; simp only [List.getElem?_cons_zero, List.getElem?_cons_succ, World.size_drew] at d0 d1 y0 y1; have l10 := b10.lt; (try simp only [World.size_drew] at l10)) | (have b10 := (Blk.new0 wz [.int .i64 0, .slice none 0 0] 39).keep hb6; have d0 := b10.cell 0; have d1 := b10.cell 1; have y0 := b10.frozen 0; have y1 := b10.frozen 1; simp only [List.getElem?_cons_zero, List.getElem?_cons_succ, World.size_drew] at d0 d1 y0 y1; have l10 := b10.lt; (try simp only [World.size_drew] at l10)) | skip)))
        · have B56 : Below w5.heap.size w5 w6 := (Below.refl _ _).drew.trans hb6'
          obtain ⟨W6, hW6⟩ : ∃ W6, W6 = w6.alloc (Obj.cells #[Value.int IntKind.i64 (capF (sizeF x.n)), Value.slice a6 n6 cap6] 39) := ⟨_, rfl⟩
          have B66 : Below w6.heap.size w6 W6 := by rw [hW6]; exact (Below.refl _ _).alloc (Nat.le_refl _) _
          have c10 : Blk W6 w6.heap.size [.int .i64 (capF (sizeF x.n)), .slice a6 n6 cap6] 39 := by rw [hW6]; exact Blk.new0 w6 _ _
          have hB6 : Below w5.heap.size w5 W6 := B56.trans (B66.mono B56.size)
          have hBn : w3.heap.size < w6.heap.size := by have := B56.size; omega
          have k6 : KL W6 (.slice a6 n6 cap6) (s.l.take (capF (sizeF x.n)).toNat) := hk6.keep B66
          have g6 : KL W6 (.slice ag ng capg) (fallL s.l (capF (sizeF x.n))) := hg6.keep B66
          rw [← hW6]
          clear hW6 B66 B56 hk6 hg6 hb6 hb6' hbz hbz'
          generalize w6.heap.size = B10 at *
          have b7w := HB75.out.keep hB6
          have hne : w3.heap.size ≠ B10 := by omega
          have hne' : B10 ≠ w3.heap.size := hne.symm
          have d0 := c10.cell 0
          have d1 := c10.cell 1
          have d2 := b7w.cell 0
          have d3 := b7w.cell 1
          have y0 := b7w.frozen 0
          have y1 := b7w.frozen 1
          simp only [List.getElem?_cons_zero, List.getElem?_cons_succ] at d0 d1 d2 d3
          have l7 := b7w.lt
          have l10 := c10.lt
          have B56 := hB6
          have qv := k6
          have qg := g6
          have n7 := qv.ne b7w (by decide)
          have m7 := qg.ne b7w (by decide)
          have E6 := HE5.out.keep B56
          have t7 := E6.typ b7w (by decide) (by decide)
          obtain ⟨W7, hW7⟩ : ∃ W7, W7 = (W6.setCell ⟨w3.heap.size, 0, none⟩ (.int .i64 (capF (sizeF x.n)))).setCell ⟨w3.heap.size, 1, none⟩ (.slice a6 n6 cap6) := ⟨_, rfl⟩
          have F7 : Fr (fun k => k = w3.heap.size) W6 W7 := by rw [hW7]; exact ((Fr.refl (fun k => k = w3.heap.size) W6).setEq rfl _).setEq rfl _
          have b7 : Blk W7 w3.heap.size [.int .i64 (capF (sizeF x.n)), .slice a6 n6 cap6] 39 := by rw [hW7]; exact (b7w.set 0 _).set 1 _
          have k7 : KL W7 (.slice a6 n6 cap6) (s.l.take (capF (sizeF x.n)).toNat) := by rw [hW7]; exact (qv.set_ne n7 _).set_ne n7 _
          have g7 : KL W7 (.slice ag ng capg) (fallL s.l (capF (sizeF x.n))) := by rw [hW7]; exact (qg.set_ne m7 _).set_ne m7 _
          have E7 : Ela W7 px O s.l s.c p := by
            obtain ⟨ps, O1, e1, e2, e3, e4⟩ := E6
            exact ⟨ps, O1, F7.blk (fun e => t7 (by rw [e4]; exact .inl e.symm)) e1, e2.frame F7 (fun k hk e => t7 (by rw [e4]; exact .inr (e ▸ hk))), e3, e4⟩
          have ch7 : Chg (fun _ => False) O w W7 := by
            have q := HCH5.out.below B56
            exact ⟨q.fr.trans F7 (fun i e => .inr (by show w.heap.size ≤ i; rw [e]; exact hwB)), q.own⟩
          have Dr := (Below.refl W7.heap.size W7).drew
          have hso : LS.ok (doS s x).1 := doS_ok HS.out HXO.out
          have HDO := Go.Lib.hid (do_any px s x W7.drew HXO.out ⟨HS.out.lo, by have := HS.out.hi; omega⟩ (by omega) (E7.keep Dr))
          rw [HD.out] at HDO hso
          have HSO := Go.Lib.hid hso
          have HS22 := Go.Lib.hid (fun (W8 W' : World) (O' : Nat → Prop) (b : Blk W8 w3.heap.size [.int .i64 (capF (sizeF x.n)), .slice a6 n6 cap6] 39) (ch : Chg (fun _ => False) O' w W8) (hb : Below W8.heap.size W8 W') => (have q := HXC2.out O' W8 W' ch hb; (⟨(b.keep hb).cell 0, (b.keep hb).cell 1, q.1, q.2.1, q.2.2⟩ : W'.cell? ⟨w3.heap.size, 0, none⟩ = some (.int .i64 (capF (sizeF x.n))) ∧ W'.cell? ⟨w3.heap.size, 1, none⟩ = some (.slice a6 n6 cap6) ∧ W'.cell? (ad.add (j * 3)) = some (.int .u8 x.kind) ∧ W'.cell? ⟨(ad.add (j * 3)).block, (ad.add (j * 3)).off + 1, none⟩ = some (.int .u64 x.key) ∧ W'.cell? ⟨(ad.add (j * 3)).block, (ad.add (j * 3)).off + 2, none⟩ = some (.int .u16 x.n))))
          have HS220 := Go.Lib.hid (HS22.out _ _ _ b7 ch7 Dr)
          have Hb7 := Go.Lib.hid b7
          have Hk7 := Go.Lib.hid (k7.keep Dr)
          have Hg7 := Go.Lib.hid (g7.keep Dr)
          have HE7 := Go.Lib.hid (E7.keep Dr)
          have HCH7 := Go.Lib.hid (ch7.below Dr)
          have HT7 := Go.Lib.hid ((E7.keep Dr).typ (b7.keep Dr) (by decide) (by decide))
          have HBd := Go.Lib.hid (b7.keep Dr)
          have l77 := b7.lt
          have hss := F7.size
          have hsz := B56.size
          have gab7 : (ad.add (j * 3)).block < W7.heap.size := by omega
          have HW7 := Go.Lib.hid hW7
          clear hW7 B56 qv qg n7 m7 E6 t7 F7 b7 k7 g7 E7 ch7 Dr hso
          clear hB6 b7w k6 g6 c10
          go_wp2_with fail
          rw [← HW7.out]
          clear d0 d1 d2 d3 y0 y1 l7 l10
          go_region_held3 (fun W' => W'.cell? ⟨w3.heap.size, 0, none⟩ = some (.int .i64 (capF (sizeF x.n))) ∧ W'.cell? ⟨w3.heap.size, 1, none⟩ = some (.slice a6 n6 cap6) ∧ W'.cell? (ad.add (j * 3)) = some (.int .u8 x.kind) ∧ W'.cell? ⟨(ad.add (j * 3)).block, (ad.add (j * 3)).off + 1, none⟩ = some (.int .u64 x.key) ∧ W'.cell? ⟨(ad.add (j * 3)).block, (ad.add (j * 3)).off + 2, none⟩ = some (.int .u16 x.n))
            (first | with_reducible exact HS22.out _ _ _ b78 ch8 hb13 | with_reducible exact HS22.out _ _ _ b78 ch8 hb12 | with_reducible exact HS22.out _ _ _ b78 ch8 hb11 | with_reducible exact HS22.out _ _ _ b78 ch8 hb10 | with_reducible exact HS22.out _ _ _ b78 ch8 hb9 | with_reducible exact HS22.out _ _ _ b78 ch8 (Below.refl _ _) | exact HS220.out)
            (first | (go_at_call 22; refine HDO.out.mono ?_; rintro e w8 ⟨vo, O9, p9, rfl, hko, hE8, hC8, hp8⟩; (have b78 := hC8.blk HT7.out HBd.out; have ch8 := HCH7.out.trans hC8; have kg8 := (Row.frame Hg7.out hC8.fr (HE7.out.kl Hg7.out) : KL w8 _ _); have k78 := (Row.frame Hk7.out hC8.fr (HE7.out.kl Hk7.out) : KL w8 _ _))) | (go_at_call 24; have z2 := hkl.1; refine (same_rfl _ _ _ _ (hkk.keep hkl.2.2) z2).mono ?_; rintro e w12 ⟨rfl, hb12'⟩; have hb12 := hb11.trans (hb12'.mono hb11.size)) | (go_at_call 24; refine (same_rfl _ _ _ _ hko kg8).mono ?_; rintro e w9 ⟨rfl, hb9⟩) | (go_at_call 30; refine (ekeys_any px _ (hE8.keep hb9)).mono ?_; rintro e w10 ⟨vk, rfl, hkk, hb10'⟩; have hb10 := hb9.trans (hb10'.mono hb9.size)) | (go_at_call 101; refine (lrkeys_any (capF (sizeF x.n)) _ _ _ HLL.out (k78.keep hb10)).mono ?_; rintro e w11 ⟨vl, rfl, hkl⟩; have hb11 := hb10.trans (hkl.2.2.mono hb10.size)) | (go_at_call 34; refine (eghosts_any px _).mono ?_; rintro e w13' ⟨rfl, rfl⟩) | (go_at_call 102; refine (lrghosts_any _ _ _ _ _).mono ?_; rintro e w13 ⟨rfl, hb13'⟩; have hb13 := hb12.trans (hb13'.mono hb12.size)))
          have HE9 := Go.Lib.hid (hE8.keep hb13)
          have Hb9 := Go.Lib.hid (b78.keep hb13)
          have Hk9 := Go.Lib.hid (k78.keep hb13)
          have HC9 := Go.Lib.hid (ch8.below hb13)
          have hpp : p9 ≤ 14 := by have q1 := hp8; have q2 := HSO.out.hi; simp only at q1 q2; omega
          clear hb9 hb10 hb11 hb12 hb13 hb10' hb12' hb13' hko hE8 hC8 hp8 b78 ch8 kg8 k78 hkk hkl z2
          go_wp2_with fail
          go_roundw
          case rel => exact ⟨j + 1, ⟨(capF (sizeF x.n)), (s.l.take (capF (sizeF x.n)).toNat)⟩, O9, p9, _, by omega, by go_num, HSO.out, hpp, HE9.out, Hb9.out, Hk9.out, HC9.out⟩
          case measure => simp [intOf]; omega
        · have B56 : Below w5.heap.size w5 w6 := (Below.refl _ _).drew.trans hb6'
          have n10 := hk6.ne b10 (by decide)
          have m10 := hg6.ne b10 (by decide)
          obtain ⟨W6, hW6⟩ : ∃ W6, W6 = (w6.setCell ⟨wz.heap.size, 0, none⟩ (Value.int IntKind.i64 (capF (sizeF x.n)))).setCell ⟨wz.heap.size, 1, none⟩ (Value.slice a6 n6 cap6) := ⟨_, rfl⟩
          have hB6 : Below w5.heap.size w5 W6 := by rw [hW6]; exact below_set (below_set B56 (hbz'.size) _) (hbz'.size) _
          have c10 : Blk W6 wz.heap.size [.int .i64 (capF (sizeF x.n)), .slice a6 n6 cap6] 39 := by rw [hW6]; exact (b10.set 0 _).set 1 _
          have k6 : KL W6 (.slice a6 n6 cap6) (s.l.take (capF (sizeF x.n)).toNat) := by rw [hW6]; exact (hk6.set_ne n10 _).set_ne n10 _
          have g6 : KL W6 (.slice ag ng capg) (fallL s.l (capF (sizeF x.n))) := by rw [hW6]; exact (hg6.set_ne m10 _).set_ne m10 _
          have hBn : w3.heap.size < wz.heap.size := by have q : w5.heap.size ≤ wz.heap.size := hbz'.size; omega
          rw [← hW6]
          clear hW6 B56 hk6 hg6 hb6 hb6' hbz hbz' b10 d0 d1 y0 y1 l10 n10 m10
          generalize hBB : wz.heap.size = B10 at c10 hBn ⊢
          clear hBB
          have b7w := HB75.out.keep hB6
          have hne : w3.heap.size ≠ B10 := by omega
          have hne' : B10 ≠ w3.heap.size := hne.symm
          have d0 := c10.cell 0
          have d1 := c10.cell 1
          have d2 := b7w.cell 0
          have d3 := b7w.cell 1
          have y0 := b7w.frozen 0
          have y1 := b7w.frozen 1
          simp only [List.getElem?_cons_zero, List.getElem?_cons_succ] at d0 d1 d2 d3
          have l7 := b7w.lt
          have l10 := c10.lt
          have B56 := hB6
          have qv := k6
          have qg := g6
          have n7 := qv.ne b7w (by decide)
          have m7 := qg.ne b7w (by decide)
          have E6 := HE5.out.keep B56
          have t7 := E6.typ b7w (by decide) (by decide)
          obtain ⟨W7, hW7⟩ : ∃ W7, W7 = (W6.setCell ⟨w3.heap.size, 0, none⟩ (.int .i64 (capF (sizeF x.n)))).setCell ⟨w3.heap.size, 1, none⟩ (.slice a6 n6 cap6) := ⟨_, rfl⟩
          have F7 : Fr (fun k => k = w3.heap.size) W6 W7 := by rw [hW7]; exact ((Fr.refl (fun k => k = w3.heap.size) W6).setEq rfl _).setEq rfl _
          have b7 : Blk W7 w3.heap.size [.int .i64 (capF (sizeF x.n)), .slice a6 n6 cap6] 39 := by rw [hW7]; exact (b7w.set 0 _).set 1 _
          have k7 : KL W7 (.slice a6 n6 cap6) (s.l.take (capF (sizeF x.n)).toNat) := by rw [hW7]; exact (qv.set_ne n7 _).set_ne n7 _
          have g7 : KL W7 (.slice ag ng capg) (fallL s.l (capF (sizeF x.n))) := by rw [hW7]; exact (qg.set_ne m7 _).set_ne m7 _
          have E7 : Ela W7 px O s.l s.c p := by
            obtain ⟨ps, O1, e1, e2, e3, e4⟩ := E6
            exact ⟨ps, O1, F7.blk (fun e => t7 (by rw [e4]; exact .inl e.symm)) e1, e2.frame F7 (fun k hk e => t7 (by rw [e4]; exact .inr (e ▸ hk))), e3, e4⟩
          have ch7 : Chg (fun _ => False) O w W7 := by
            have q := HCH5.out.below B56
            exact ⟨q.fr.trans F7 (fun i e => .inr (by show w.heap.size ≤ i; rw [e]; exact hwB)), q.own⟩
          have Dr := (Below.refl W7.heap.size W7).drew
          have hso : LS.ok (doS s x).1 := doS_ok HS.out HXO.out
          have HDO := Go.Lib.hid (do_any px s x W7.drew HXO.out ⟨HS.out.lo, by have := HS.out.hi; omega⟩ (by omega) (E7.keep Dr))
          rw [HD.out] at HDO hso
          have HSO := Go.Lib.hid hso
          have HS22 := Go.Lib.hid (fun (W8 W' : World) (O' : Nat → Prop) (b : Blk W8 w3.heap.size [.int .i64 (capF (sizeF x.n)), .slice a6 n6 cap6] 39) (ch : Chg (fun _ => False) O' w W8) (hb : Below W8.heap.size W8 W') => (have q := HXC2.out O' W8 W' ch hb; (⟨(b.keep hb).cell 0, (b.keep hb).cell 1, q.1, q.2.1, q.2.2⟩ : W'.cell? ⟨w3.heap.size, 0, none⟩ = some (.int .i64 (capF (sizeF x.n))) ∧ W'.cell? ⟨w3.heap.size, 1, none⟩ = some (.slice a6 n6 cap6) ∧ W'.cell? (ad.add (j * 3)) = some (.int .u8 x.kind) ∧ W'.cell? ⟨(ad.add (j * 3)).block, (ad.add (j * 3)).off + 1, none⟩ = some (.int .u64 x.key) ∧ W'.cell? ⟨(ad.add (j * 3)).block, (ad.add (j * 3)).off + 2, none⟩ = some (.int .u16 x.n))))
          have HS220 := Go.Lib.hid (HS22.out _ _ _ b7 ch7 Dr)
          have Hb7 := Go.Lib.hid b7
          have Hk7 := Go.Lib.hid (k7.keep Dr)
          have Hg7 := Go.Lib.hid (g7.keep Dr)
          have HE7 := Go.Lib.hid (E7.keep Dr)
          have HCH7 := Go.Lib.hid (ch7.below Dr)
          have HT7 := Go.Lib.hid ((E7.keep Dr).typ (b7.keep Dr) (by decide) (by decide))
          have HBd := Go.Lib.hid (b7.keep Dr)
          have l77 := b7.lt
          have hss := F7.size
          have hsz := B56.size
          have gab7 : (ad.add (j * 3)).block < W7.heap.size := by omega
          have HW7 := Go.Lib.hid hW7
          clear hW7 B56 qv qg n7 m7 E6 t7 F7 b7 k7 g7 E7 ch7 Dr hso
          clear hB6 b7w k6 g6 c10
          go_wp2_with fail
          rw [← HW7.out]
          clear d0 d1 d2 d3 y0 y1 l7 l10
          go_region_held3 (fun W' => W'.cell? ⟨w3.heap.size, 0, none⟩ = some (.int .i64 (capF (sizeF x.n))) ∧ W'.cell? ⟨w3.heap.size, 1, none⟩ = some (.slice a6 n6 cap6) ∧ W'.cell? (ad.add (j * 3)) = some (.int .u8 x.kind) ∧ W'.cell? ⟨(ad.add (j * 3)).block, (ad.add (j * 3)).off + 1, none⟩ = some (.int .u64 x.key) ∧ W'.cell? ⟨(ad.add (j * 3)).block, (ad.add (j * 3)).off + 2, none⟩ = some (.int .u16 x.n))
            (first | with_reducible exact HS22.out _ _ _ b78 ch8 hb13 | with_reducible exact HS22.out _ _ _ b78 ch8 hb12 | with_reducible exact HS22.out _ _ _ b78 ch8 hb11 | with_reducible exact HS22.out _ _ _ b78 ch8 hb10 | with_reducible exact HS22.out _ _ _ b78 ch8 hb9 | with_reducible exact HS22.out _ _ _ b78 ch8 (Below.refl _ _) | exact HS220.out)
            (first | (go_at_call 22; refine HDO.out.mono ?_; rintro e w8 ⟨vo, O9, p9, rfl, hko, hE8, hC8, hp8⟩; (have b78 := hC8.blk HT7.out HBd.out; have ch8 := HCH7.out.trans hC8; have kg8 := (Row.frame Hg7.out hC8.fr (HE7.out.kl Hg7.out) : KL w8 _ _); have k78 := (Row.frame Hk7.out hC8.fr (HE7.out.kl Hk7.out) : KL w8 _ _))) | (go_at_call 24; have z2 := hkl.1; refine (same_rfl _ _ _ _ (hkk.keep hkl.2.2) z2).mono ?_; rintro e w12 ⟨rfl, hb12'⟩; have hb12 := hb11.trans (hb12'.mono hb11.size)) | (go_at_call 24; refine (same_rfl _ _ _ _ hko kg8).mono ?_; rintro e w9 ⟨rfl, hb9⟩) | (go_at_call 30; refine (ekeys_any px _ (hE8.keep hb9)).mono ?_; rintro e w10 ⟨vk, rfl, hkk, hb10'⟩; have hb10 := hb9.trans (hb10'.mono hb9.size)) | (go_at_call 101; refine (lrkeys_any (capF (sizeF x.n)) _ _ _ HLL.out (k78.keep hb10)).mono ?_; rintro e w11 ⟨vl, rfl, hkl⟩; have hb11 := hb10.trans (hkl.2.2.mono hb10.size)) | (go_at_call 34; refine (eghosts_any px _).mono ?_; rintro e w13' ⟨rfl, rfl⟩) | (go_at_call 102; refine (lrghosts_any _ _ _ _ _).mono ?_; rintro e w13 ⟨rfl, hb13'⟩; have hb13 := hb12.trans (hb13'.mono hb12.size)))
          have HE9 := Go.Lib.hid (hE8.keep hb13)
          have Hb9 := Go.Lib.hid (b78.keep hb13)
          have Hk9 := Go.Lib.hid (k78.keep hb13)
          have HC9 := Go.Lib.hid (ch8.below hb13)
          have hpp : p9 ≤ 14 := by have q1 := hp8; have q2 := HSO.out.hi; simp only at q1 q2; omega
          clear hb9 hb10 hb11 hb12 hb13 hb10' hb12' hb13' hko hE8 hC8 hp8 b78 ch8 kg8 k78 hkk hkl z2
          go_wp2_with fail
          go_roundw
          case rel => exact ⟨j + 1, ⟨(capF (sizeF x.n)), (s.l.take (capF (sizeF x.n)).toNat)⟩, O9, p9, _, by omega, by go_num, HSO.out, hpp, HE9.out, Hb9.out, Hk9.out, HC9.out⟩
          case measure => simp [intOf]; omega
        · have B56 : Below w5.heap.size w5 w6 := (Below.refl _ _).drew.trans hb6'
          have n10 := hk6.ne b10 (by decide)
          have m10 := hg6.ne b10 (by decide)
          obtain ⟨W6, hW6⟩ : ∃ W6, W6 = (w6.setCell ⟨w5.heap.size, 0, none⟩ (Value.int IntKind.i64 (capF (sizeF x.n)))).setCell ⟨w5.heap.size, 1, none⟩ (Value.slice a6 n6 cap6) := ⟨_, rfl⟩
          have hB6 : Below w5.heap.size w5 W6 := by rw [hW6]; exact below_set (below_set B56 (Nat.le_refl _) _) (Nat.le_refl _) _
          have c10 : Blk W6 w5.heap.size [.int .i64 (capF (sizeF x.n)), .slice a6 n6 cap6] 39 := by rw [hW6]; exact (b10.set 0 _).set 1 _
          have k6 : KL W6 (.slice a6 n6 cap6) (s.l.take (capF (sizeF x.n)).toNat) := by rw [hW6]; exact (hk6.set_ne n10 _).set_ne n10 _
          have g6 : KL W6 (.slice ag ng capg) (fallL s.l (capF (sizeF x.n))) := by rw [hW6]; exact (hg6.set_ne m10 _).set_ne m10 _
          have hBn : w3.heap.size < w5.heap.size := by exact l75
          rw [← hW6]
          clear hW6 B56 hk6 hg6 hb6 hb6' hbz hbz' bz b10 d0 d1 y0 y1 l10 n10 m10
          generalize hBB : w5.heap.size = B10 at c10 hBn ⊢
          clear hBB
          have b7w := HB75.out.keep hB6
          have hne : w3.heap.size ≠ B10 := by omega
          have hne' : B10 ≠ w3.heap.size := hne.symm
          have d0 := c10.cell 0
          have d1 := c10.cell 1
          have d2 := b7w.cell 0
          have d3 := b7w.cell 1
          have y0 := b7w.frozen 0
          have y1 := b7w.frozen 1
          simp only [List.getElem?_cons_zero, List.getElem?_cons_succ] at d0 d1 d2 d3
          have l7 := b7w.lt
          have l10 := c10.lt
          have B56 := hB6
          have qv := k6
          have qg := g6
          have n7 := qv.ne b7w (by decide)
          have m7 := qg.ne b7w (by decide)
          have E6 := HE5.out.keep B56
          have t7 := E6.typ b7w (by decide) (by decide)
          obtain ⟨W7, hW7⟩ : ∃ W7, W7 = (W6.setCell ⟨w3.heap.size, 0, none⟩ (.int .i64 (capF (sizeF x.n)))).setCell ⟨w3.heap.size, 1, none⟩ (.slice a6 n6 cap6) := ⟨_, rfl⟩
          have F7 : Fr (fun k => k = w3.heap.size) W6 W7 := by rw [hW7]; exact ((Fr.refl (fun k => k = w3.heap.size) W6).setEq rfl _).setEq rfl _
          have b7 : Blk W7 w3.heap.size [.int .i64 (capF (sizeF x.n)), .slice a6 n6 cap6] 39 := by rw [hW7]; exact (b7w.set 0 _).set 1 _
          have k7 : KL W7 (.slice a6 n6 cap6) (s.l.take (capF (sizeF x.n)).toNat) := by rw [hW7]; exact (qv.set_ne n7 _).set_ne n7 _
          have g7 : KL W7 (.slice ag ng capg) (fallL s.l (capF (sizeF x.n))) := by rw [hW7]; exact (qg.set_ne m7 _).set_ne m7 _
          have E7 : Ela W7 px O s.l s.c p := by
            obtain ⟨ps, O1, e1, e2, e3, e4⟩ := E6
            exact ⟨ps, O1, F7.blk (fun e => t7 (by rw [e4]; exact .inl e.symm)) e1, e2.frame F7 (fun k hk e => t7 (by rw [e4]; exact .inr (e ▸ hk))), e3, e4⟩
          have ch7 : Chg (fun _ => False) O w W7 := by
            have q := HCH5.out.below B56
            exact ⟨q.fr.trans F7 (fun i e => .inr (by show w.heap.size ≤ i; rw [e]; exact hwB)), q.own⟩
          have Dr := (Below.refl W7.heap.size W7).drew
          have hso : LS.ok (doS s x).1 := doS_ok HS.out HXO.out
          have HDO := Go.Lib.hid (do_any px s x W7.drew HXO.out ⟨HS.out.lo, by have := HS.out.hi; omega⟩ (by omega) (E7.keep Dr))
          rw [HD.out] at HDO hso
          have HSO := Go.Lib.hid hso
          have HS22 := Go.Lib.hid (fun (W8 W' : World) (O' : Nat → Prop) (b : Blk W8 w3.heap.size [.int .i64 (capF (sizeF x.n)), .slice a6 n6 cap6] 39) (ch : Chg (fun _ => False) O' w W8) (hb : Below W8.heap.size W8 W') => (have q := HXC2.out O' W8 W' ch hb; (⟨(b.keep hb).cell 0, (b.keep hb).cell 1, q.1, q.2.1, q.2.2⟩ : W'.cell? ⟨w3.heap.size, 0, none⟩ = some (.int .i64 (capF (sizeF x.n))) ∧ W'.cell? ⟨w3.heap.size, 1, none⟩ = some (.slice a6 n6 cap6) ∧ W'.cell? (ad.add (j * 3)) = some (.int .u8 x.kind) ∧ W'.cell? ⟨(ad.add (j * 3)).block, (ad.add (j * 3)).off + 1, none⟩ = some (.int .u64 x.key) ∧ W'.cell? ⟨(ad.add (j * 3)).block, (ad.add (j * 3)).off + 2, none⟩ = some (.int .u16 x.n))))
          have HS220 := Go.Lib.hid (HS22.out _ _ _ b7 ch7 Dr)
          have Hb7 := Go.Lib.hid b7
          have Hk7 := Go.Lib.hid (k7.keep Dr)
          have Hg7 := Go.Lib.hid (g7.keep Dr)
          have HE7 := Go.Lib.hid (E7.keep Dr)
          have HCH7 := Go.Lib.hid (ch7.below Dr)
          have HT7 := Go.Lib.hid ((E7.keep Dr).typ (b7.keep Dr) (by decide) (by decide))
          have HBd := Go.Lib.hid (b7.keep Dr)
          have l77 := b7.lt
          have hss := F7.size
          have hsz := B56.size
          have gab7 : (ad.add (j * 3)).block < W7.heap.size := by omega
          have HW7 := Go.Lib.hid hW7
          clear hW7 B56 qv qg n7 m7 E6 t7 F7 b7 k7 g7 E7 ch7 Dr hso
          clear hB6 b7w k6 g6 c10
          go_wp2_with fail
          rw [← HW7.out]
          clear d0 d1 d2 d3 y0 y1 l7 l10
          go_region_held3 (fun W' => W'.cell? ⟨w3.heap.size, 0, none⟩ = some (.int .i64 (capF (sizeF x.n))) ∧ W'.cell? ⟨w3.heap.size, 1, none⟩ = some (.slice a6 n6 cap6) ∧ W'.cell? (ad.add (j * 3)) = some (.int .u8 x.kind) ∧ W'.cell? ⟨(ad.add (j * 3)).block, (ad.add (j * 3)).off + 1, none⟩ = some (.int .u64 x.key) ∧ W'.cell? ⟨(ad.add (j * 3)).block, (ad.add (j * 3)).off + 2, none⟩ = some (.int .u16 x.n))
            (first | with_reducible exact HS22.out _ _ _ b78 ch8 hb13 | with_reducible exact HS22.out _ _ _ b78 ch8 hb12 | with_reducible exact HS22.out _ _ _ b78 ch8 hb11 | with_reducible exact HS22.out _ _ _ b78 ch8 hb10 | with_reducible exact HS22.out _ _ _ b78 ch8 hb9 | with_reducible exact HS22.out _ _ _ b78 ch8 (Below.refl _ _) | exact HS220.out)
            (first | (go_at_call 22; refine HDO.out.mono ?_; rintro e w8 ⟨vo, O9, p9, rfl, hko, hE8, hC8, hp8⟩; (have b78 := hC8.blk HT7.out HBd.out; have ch8 := HCH7.out.trans hC8; have kg8 := (Row.frame Hg7.out hC8.fr (HE7.out.kl Hg7.out) : KL w8 _ _); have k78 := (Row.frame Hk7.out hC8.fr (HE7.out.kl Hk7.out) : KL w8 _ _))) | (go_at_call 24; have z2 := hkl.1; refine (same_rfl _ _ _ _ (hkk.keep hkl.2.2) z2).mono ?_; rintro e w12 ⟨rfl, hb12'⟩; have hb12 := hb11.trans (hb12'.mono hb11.size)) | (go_at_call 24; refine (same_rfl _ _ _ _ hko kg8).mono ?_; rintro e w9 ⟨rfl, hb9⟩) | (go_at_call 30; refine (ekeys_any px _ (hE8.keep hb9)).mono ?_; rintro e w10 ⟨vk, rfl, hkk, hb10'⟩; have hb10 := hb9.trans (hb10'.mono hb9.size)) | (go_at_call 101; refine (lrkeys_any (capF (sizeF x.n)) _ _ _ HLL.out (k78.keep hb10)).mono ?_; rintro e w11 ⟨vl, rfl, hkl⟩; have hb11 := hb10.trans (hkl.2.2.mono hb10.size)) | (go_at_call 34; refine (eghosts_any px _).mono ?_; rintro e w13' ⟨rfl, rfl⟩) | (go_at_call 102; refine (lrghosts_any _ _ _ _ _).mono ?_; rintro e w13 ⟨rfl, hb13'⟩; have hb13 := hb12.trans (hb13'.mono hb12.size)))
          have HE9 := Go.Lib.hid (hE8.keep hb13)
          have Hb9 := Go.Lib.hid (b78.keep hb13)
          have Hk9 := Go.Lib.hid (k78.keep hb13)
          have HC9 := Go.Lib.hid (ch8.below hb13)
          have hpp : p9 ≤ 14 := by have q1 := hp8; have q2 := HSO.out.hi; simp only at q1 q2; omega
          clear hb9 hb10 hb11 hb12 hb13 hb10' hb12' hb13' hko hE8 hC8 hp8 b78 ch8 kg8 k78 hkk hkl z2
          go_wp2_with fail
          go_roundw
          case rel => exact ⟨j + 1, ⟨(capF (sizeF x.n)), (s.l.take (capF (sizeF x.n)).toNat)⟩, O9, p9, _, by omega, by go_num, HSO.out, hpp, HE9.out, Hb9.out, Hk9.out, HC9.out⟩
          case measure => simp [intOf]; omega
      · have e : j = A.length := by omega
        subst e
        have HF := Go.Lib.hid hch.fr.below
        clear hs hE hb7 hk7 hch
        go_wp2_with fail
        go_ret
        exact ⟨rfl, HF.out⟩
  · have hlb : (60 : Int) < A.length := by omega
    go_enter Try.func17, Try.ntmps17
    go_wp2_with fail
    refine (awake_any _).mono ?_
    rintro e w1 ⟨rfl, hb1⟩
    have HB1 := Go.Lib.hid hb1
    clear hb1
    go_wp2_with fail
    go_ret
    exact ⟨rfl, HB1.out⟩
end Go.Proofs.Ytlakojncjldpbaa
