/- EtwoqLists: the walk. -/
import Derived.Test.YtlakojncjldpbaaLt7
import Derived.Test.YtlakojncjldpbaaQlaw
import Derived.Deep.RegionWith
namespace Go.Proofs.Ytlakojncjldpbaa
open Go.RowKit Hop
set_option linter.unusedVariables false
set_option linter.unusedSimpArgs false
set_option maxRecDepth 100000
theorem TS.ok.len {s : TS} (h : s.ok) : s.i.length < 10000 ∧ s.o.length < 10000 ∧ s.m.length < 10000 := by
  have := h.hi
  have := h.im
  have := h.ou
  omega
theorem same_rfq (va vb : Value) (A : List Int) (w : World) (ha : KL w va A) (hb : KL w vb A) : Calls Try.prog 24 #[va, vb] w fun e w' => e = .returned (.bool true) ∧ Below w.heap.size w w' :=
  (same_any va vb A A w ha hb).mono fun e w' ⟨h1, h2⟩ => ⟨by rw [h1]; simp, h2⟩
theorem twl_has (s : TS) (a0 a1 a2 : Option Addr) (n0 n1 n2 p0 p1 p2 : Nat) (k : Int) (w : World) (h : TL w (.slice a0 n0 p0) (.slice a1 n1 p1) (.slice a2 n2 p2) s) :
    Calls Try.prog 104 #[twV s.c (.slice a0 n0 p0) (.slice a1 n1 p1) (.slice a2 n2 p2), .int .u64 k] w fun e w' => e = .returned (.bool (decide (k ∈ s.i ++ s.m))) ∧ Below w.heap.size w w' :=
  twhas_any s.c a0 a1 a2 n0 n1 n2 p0 p1 p2 s.i s.m k w h.i h.m
theorem twl_keys (s : TS) (v0 v1 v2 : Value) (w : World) (hs : s.ok) (h : TL w v0 v1 v2 s) :
    Calls Try.prog 109 #[twV s.c v0 v1 v2] w fun e w' => ∃ v, e = .returned v ∧ KL w' v (s.i ++ s.m) ∧ Below w.heap.size w w' :=
  twkeys_any s.c v0 v1 v2 s.i s.o s.m w hs.len.1 hs.len.2.2 h.i h.o h.m
theorem twl_ghosts (s : TS) (v0 v1 v2 : Value) (w : World) (h : TL w v0 v1 v2 s) :
    Calls Try.prog 110 #[twV s.c v0 v1 v2] w fun e w' => e = .returned (.int .i64 s.o.length) ∧ Below w.heap.size w w' := by
  obtain ⟨a0, p0, rfl⟩ := h.i.form
  obtain ⟨a1, p1, rfl⟩ := h.o.form
  obtain ⟨a2, p2, rfl⟩ := h.m.form
  exact twghosts_any s.c a0 a1 a2 _ _ _ p0 p1 p2 w
theorem TL.fr {w w' : World} {v0 v1 v2 : Value} {s : TS} (h : TL w v0 v1 v2 s) {own : Nat → Prop} (f : Fr own w w') (hn : ∀ v L, KL w v L → ∀ b, v.ownBlock = some b → ¬ own b) : TL w' v0 v1 v2 s :=
  ⟨h.i.fr2 f (hn _ _ h.i), h.o.fr2 f (hn _ _ h.o), h.m.fr2 f (hn _ _ h.m)⟩
theorem TL.start (w : World) (c : Int) : TL w (.slice none 0 0) (.slice none 0 0) (.slice none 0 0) ⟨c, [], [], []⟩ := ⟨KL.nil _, KL.nil _, KL.nil _⟩
theorem twl_touch (s : TS) (v0 v1 v2 : Value) (k : Int) (w : World) (hs : s.ok) (h : TL w v0 v1 v2 s) :
    Calls Try.prog 105 #[twV s.c v0 v1 v2, .int .u64 k] w fun e w' => ∃ a0 n0 p0 a1 n1 p1 a2 n2 p2, e = .returned (twV (touchT s k).c (.slice a0 n0 p0) (.slice a1 n1 p1) (.slice a2 n2 p2)) ∧ TL w' (.slice a0 n0 p0) (.slice a1 n1 p1) (.slice a2 n2 p2) (touchT s k) ∧ Below w.heap.size w w' := by
  have q1 := hs.len
  have e1 : (touchT s k).c = s.c := by unfold touchT; split <;> rfl
  refine (twtouch_any s.c v0 v1 v2 s.i s.o s.m k w q1.1 q1.2.1 q1.2.2 h.i h.o h.m).mono ?_
  rintro e w' ⟨u0, u1, u2, rfl, k0, k1, k2, hb⟩
  obtain ⟨a0, p0, rfl⟩ := k0.form
  obtain ⟨a1, p1, rfl⟩ := k1.form
  obtain ⟨a2, p2, rfl⟩ := k2.form
  exact ⟨a0, _, p0, a1, _, p1, a2, _, p2, by rw [e1], ⟨k0, k1, k2⟩, hb⟩
theorem twl_drop (s : TS) (v0 v1 v2 : Value) (k : Int) (w : World) (hs : s.ok) (h : TL w v0 v1 v2 s) :
    Calls Try.prog 107 #[twV s.c v0 v1 v2, .int .u64 k] w fun e w' => ∃ a0 n0 p0 a1 n1 p1 a2 n2 p2, e = .returned (twV (dropT s k).c (.slice a0 n0 p0) (.slice a1 n1 p1) (.slice a2 n2 p2)) ∧ TL w' (.slice a0 n0 p0) (.slice a1 n1 p1) (.slice a2 n2 p2) (dropT s k) ∧ Below w.heap.size w w' := by
  have q1 := hs.len
  have e1 : (dropT s k).c = s.c := rfl
  refine (twdrop_any s.c v0 v1 v2 s.i s.o s.m k w q1.1 q1.2.1 q1.2.2 h.i h.o h.m).mono ?_
  rintro e w' ⟨u0, u1, u2, rfl, k0, k1, k2, hb⟩
  obtain ⟨a0, p0, rfl⟩ := k0.form
  obtain ⟨a1, p1, rfl⟩ := k1.form
  obtain ⟨a2, p2, rfl⟩ := k2.form
  exact ⟨a0, _, p0, a1, _, p1, a2, _, p2, by rw [e1], ⟨k0, k1, k2⟩, hb⟩
theorem twl_admit (s : TS) (v0 v1 v2 : Value) (k : Int) (w : World) (hs : s.ok) (h : TL w v0 v1 v2 s) :
    Calls Try.prog 106 #[twV s.c v0 v1 v2, .int .u64 k] w fun e w' => ∃ a0 n0 p0 a1 n1 p1 a2 n2 p2 ag ng pg, e = .returned (.tuple #[twV (admitT s k).1.c (.slice a0 n0 p0) (.slice a1 n1 p1) (.slice a2 n2 p2), .slice ag ng pg]) ∧ TL w' (.slice a0 n0 p0) (.slice a1 n1 p1) (.slice a2 n2 p2) (admitT s k).1 ∧ KL w' (.slice ag ng pg) (admitT s k).2 ∧ Below w.heap.size w w' := by
  have q1 := hs.len
  have e1 : (admitT s k).1.c = s.c := by unfold admitT; simp only; split; rfl; split <;> rfl
  refine (twadmit_any s.c v0 v1 v2 s.i s.o s.m k w hs.lo (by have := hs.hi; omega) q1.1 q1.2.1 q1.2.2 h.i h.o h.m).mono ?_
  rintro e w' ⟨u0, u1, u2, vo, rfl, k0, k1, k2, kg, hb⟩
  obtain ⟨a0, p0, rfl⟩ := k0.form
  obtain ⟨a1, p1, rfl⟩ := k1.form
  obtain ⟨a2, p2, rfl⟩ := k2.form
  obtain ⟨ag, pg, rfl⟩ := kg.form
  exact ⟨a0, _, p0, a1, _, p1, a2, _, p2, ag, _, pg, by rw [e1], ⟨k0, k1, k2⟩, kg, hb⟩
theorem twl_resize (s : TS) (v0 v1 v2 : Value) (n : Int) (w : World) (hs : s.ok) (hn : 1 ≤ capF n ∧ capF n ≤ 1000) (h : TL w v0 v1 v2 s) :
    Calls Try.prog 108 #[twV s.c v0 v1 v2, .int .i64 n] w fun e w' => ∃ a0 n0 p0 a1 n1 p1 a2 n2 p2 ag ng pg, e = .returned (.tuple #[twV (resizeT s n).1.c (.slice a0 n0 p0) (.slice a1 n1 p1) (.slice a2 n2 p2), .slice ag ng pg]) ∧ TL w' (.slice a0 n0 p0) (.slice a1 n1 p1) (.slice a2 n2 p2) (resizeT s n).1 ∧ KL w' (.slice ag ng pg) (resizeT s n).2 ∧ Below w.heap.size w w' := by
  have q1 := hs.len
  have e1 : (resizeT s n).1.c = capF n := rfl
  refine (twresize_any s.c n v0 v1 v2 s.i s.o s.m w hn.1 hn.2 q1.1 q1.2.1 q1.2.2 h.i h.o h.m).mono ?_
  rintro e w' ⟨u0, u1, u2, vo, rfl, k0, k1, k2, kg, hb⟩
  obtain ⟨a0, p0, rfl⟩ := k0.form
  obtain ⟨a1, p1, rfl⟩ := k1.form
  obtain ⟨a2, p2, rfl⟩ := k2.form
  obtain ⟨ag, pg, rfl⟩ := kg.form
  exact ⟨a0, _, p0, a1, _, p1, a2, _, p2, ag, _, pg, by rw [e1], ⟨k0, k1, k2⟩, kg, hb⟩
set_option maxHeartbeats 60000000 in
theorem tlists_any (c : Int) (v : Value) (A : List Ac) (w : World) (hc0 : 0 ≤ c) (hc1 : c < 256) (h : AL w v A) :
    Calls Try.prog 18 #[.int .u8 c, v] w fun e w' => e = .returned (.bool true) ∧ Below w.heap.size w w' := by
  have HAL := Go.Lib.hid h
  obtain ⟨a, cap, rfl, hm, hok, hcell⟩ := h
  have HOK := Go.Lib.hid hok
  clear hok hcell
  have hcm : 0 ≤ c % 12 ∧ c % 12 < 12 := by omega
  obtain ⟨hcm0, hcm1⟩ := hcm
  have HC : Hid (capF (1 + c % 12) = 1 + c % 12) := Go.Lib.hid (capF_id (by omega))
  unfold maxLen at hm
  by_cases hlen : A.length ≤ 60
  · go_enter Try.func18, Try.ntmps18
    go_wp2_with fail
    refine (qawake_any _).mono ?_
    rintro e w1 ⟨rfl, hb1⟩
    have HB1 := Go.Lib.hid hb1
    clear hb1
    go_wp2_with fail
    refine (tnew_any' _ _).mono ?_
    rintro e w2 ⟨px, O2, rfl, hE2, ho2, hb2⟩
    have HE2 := Go.Lib.hid hE2
    have HO2 := Go.Lib.hid ho2
    have HB2 := Go.Lib.hid hb2
    clear hE2 ho2 hb2
    go_wp2_with fail
    refine (twnew_any _ _).mono ?_
    rintro e w3 ⟨rfl, hb3⟩
    have HB3 := Go.Lib.hid hb3
    clear hb3
    go_wp2_with fail
    have HC7 : Hid (Tqa (w3.alloc (.cells #[.int .i64 (capF (1 + c % 12)), .slice none 0 0, .slice none 0 0, .slice none 0 0] 66)) px O2 ⟨capF (1 + c % 12), [], [], []⟩ 0) := Go.Lib.hid ((HE2.out.keep HB3.out).keep ((Below.refl _ _).alloc (Nat.le_refl _) _))
    have sz1 := HB1.out.size
    have sz2 := HB2.out.size
    have sz3 := HB3.out.size
    have HCH : Hid (Chg (fun _ => False) O2 w (w3.alloc (.cells #[.int .i64 (capF (1 + c % 12)), .slice none 0 0, .slice none 0 0, .slice none 0 0] 66))) := Go.Lib.hid (by
      have c1 : Chg (fun _ => False) O2 w w2 := ⟨Fr.of_below (HB1.out.trans (HB2.out.mono sz1)), fun k hk => .inr (by have := HO2.out k hk; omega)⟩
      exact (c1.below HB3.out).below ((Below.refl _ _).alloc (Nat.le_refl _) _))
    rw [HC.out] at HC7 HCH
    rw [HC.out]
    have hsok : TS.ok ⟨1 + c % 12, [], [], []⟩ := ⟨by show 1 ≤ 1 + c % 12; omega, by show 1 + c % 12 ≤ 14; omega, by show ((0 : Nat) : Int) + (0 : Nat) ≤ 1 + c % 12; omega, by show ((0 : Nat) : Int) ≤ (1 + c % 12) / 2; omega⟩
    have HSOK := Go.Lib.hid hsok
    have hwB : w.heap.size ≤ w3.heap.size := by omega
    clear hsok
    go_loopw [8] (fun i wr => ∃ (j : Nat) (s : TS) (O : Nat → Prop) (p : Nat) (v0 v1 v2 : Value), j ≤ A.length ∧ i = .int .i64 j ∧ s.ok ∧ p ≤ 28 ∧ Tqa wr px O s p ∧ Blk wr w3.heap.size [.int .i64 s.c, v0, v1, v2] 66 ∧ TL wr v0 v1 v2 s ∧ Chg (fun _ => False) O w wr) (fun i _ => A.length - (intOf i).toNat)
    case atStart => exact ⟨0, ⟨1 + c % 12, [], [], []⟩, O2, 0, .slice none 0 0, .slice none 0 0, .slice none 0 0, by omega, rfl, HSOK.out, by omega, HC7.out, Blk.new0 w3 _ _, TL.start _ _, HCH.out⟩
    case round =>
      obtain ⟨j, s, O, p, v0, v1, v2, hj, rfl, hs, hp, hE, hb7, hk7, hch⟩ := hrel
      by_cases hlt : j < A.length
      · have HSL := Go.Lib.hid hs.len
        obtain ⟨y0, yc0, rfl⟩ := hk7.i.form
        generalize hyn0 : s.i.length = yn0 at hb7 hk7
        clear hyn0
        obtain ⟨y1, yc1, rfl⟩ := hk7.o.form
        generalize hyn1 : s.o.length = yn1 at hb7 hk7
        clear hyn1
        obtain ⟨y2, yc2, rfl⟩ := hk7.m.form
        generalize hyn2 : s.m.length = yn2 at hb7 hk7
        clear hyn2
        obtain ⟨x, hx⟩ : ∃ x, A[j]? = some x := ⟨A[j], List.getElem?_eq_getElem hlt⟩
        have hxo : x.ok := HOK.out x (List.mem_of_getElem? hx)
        obtain ⟨a', cap', e1, _, _, hcl⟩ := HAL.out.keep hch.fr.below
        injection e1 with e2 e3 e4
        subst e2; subst e4
        obtain ⟨ad, rfl, g1, g2, g3, g4⟩ := hcl j x hx
        have gab : (ad.add (j * 3)).block < wr.heap.size := by rw [add_block]; exact g1
        have HXC := Go.Lib.hid (fun (O' : Nat → Prop) (W W' : World) (ch : Chg (fun _ => False) O' w W) (hb : Below W.heap.size W W') => show W'.cell? (ad.add (j * 3)) = some (.int .u8 x.kind) ∧ W'.cell? ⟨(ad.add (j * 3)).block, (ad.add (j * 3)).off + 1, none⟩ = some (.int .u64 x.key) ∧ W'.cell? ⟨(ad.add (j * 3)).block, (ad.add (j * 3)).off + 2, none⟩ = some (.int .u16 x.n) from by
          obtain ⟨a', cap', e1, _, _, hcl⟩ := HAL.out.keep ((ch.fr.below).trans (hb.mono ch.fr.size))
          injection e1 with e2 e3 e4
          subst e4
          obtain ⟨ad', e5, _, f2, f3, f4⟩ := hcl j x hx
          rw [← e2] at e5
          injection e5 with e5
          subst e5
          exact ⟨f2, f3, f4⟩)
        have HXO := Go.Lib.hid hxo
        have HS := Go.Lib.hid hs
        have HE := Go.Lib.hid hE
        have HB7 := Go.Lib.hid hb7
        have HK7 := Go.Lib.hid hk7
        have HCH := Go.Lib.hid hch
        have HAD := Go.Lib.hid (show (ad.add (j * 3)).block < w.heap.size from by
          obtain ⟨a', cap', e1, _, _, hcl⟩ := HAL.out
          injection e1 with e2 e3 e4
          obtain ⟨ad', e5, f1, _, _, _⟩ := hcl j x hx
          rw [← e2] at e5
          injection e5 with e5
          subst e5
          rw [add_block]; exact f1)
        have S9 := fun W' (hb : Below wr.drew.heap.size wr.drew W') => (have q := HXC.out O wr W' hch ((Below.refl _ _).drew.trans hb); have b := hb7.keep ((Below.refl _ _).drew.trans hb); (⟨b.cell 0, b.cell 1, b.cell 2, b.cell 3, q.1, q.2.1, q.2.2⟩ : W'.cell? ⟨w3.heap.size, 0, none⟩ = some (.int .i64 s.c) ∧ W'.cell? ⟨w3.heap.size, 1, none⟩ = some (.slice y0 yn0 yc0) ∧ W'.cell? ⟨w3.heap.size, 2, none⟩ = some (.slice y1 yn1 yc1) ∧ W'.cell? ⟨w3.heap.size, 3, none⟩ = some (.slice y2 yn2 yc2) ∧ W'.cell? (ad.add (j * 3)) = some (.int .u8 x.kind) ∧ W'.cell? ⟨(ad.add (j * 3)).block, (ad.add (j * 3)).off + 1, none⟩ = some (.int .u64 x.key) ∧ W'.cell? ⟨(ad.add (j * 3)).block, (ad.add (j * 3)).off + 2, none⟩ = some (.int .u16 x.n)))
        have HS9 := Go.Lib.hid S9
        have HS90 := Go.Lib.hid (S9 _ (Below.refl _ _))
        have HLH := Go.Lib.hid (twl_has s y0 y1 y2 yn0 yn1 yn2 yc0 yc1 yc2 x.key wr.drew (hk7.keep (Below.refl _ _).drew))
        have HKD := Go.Lib.hid (fun t w => kind_any x.kind x.key x.n t w hxo.1)
        have HD : Hid (doT s x = if kindF x.kind (decide (x.key ∈ s.i ++ s.m)) = 1 then (touchT s x.key, []) else if kindF x.kind (decide (x.key ∈ s.i ++ s.m)) = 2 then admitT s x.key else if kindF x.kind (decide (x.key ∈ s.i ++ s.m)) = 3 then (dropT s x.key, []) else resizeT s (sizeF x.n)) := Go.Lib.hid rfl
        generalize decide (x.key ∈ s.i ++ s.m) = tb at *
        have l70 := hb7.lt
        clear S9 hx hxo hcl hs hE hb7 hk7 hch e3 g2 g3 g4 g1
        go_wp2_with fail
        go_region_held3 (fun W' => W'.cell? ⟨w3.heap.size, 0, none⟩ = some (.int .i64 s.c) ∧ W'.cell? ⟨w3.heap.size, 1, none⟩ = some (.slice y0 yn0 yc0) ∧ W'.cell? ⟨w3.heap.size, 2, none⟩ = some (.slice y1 yn1 yc1) ∧ W'.cell? ⟨w3.heap.size, 3, none⟩ = some (.slice y2 yn2 yc2) ∧ W'.cell? (ad.add (j * 3)) = some (.int .u8 x.kind) ∧ W'.cell? ⟨(ad.add (j * 3)).block, (ad.add (j * 3)).off + 1, none⟩ = some (.int .u64 x.key) ∧ W'.cell? ⟨(ad.add (j * 3)).block, (ad.add (j * 3)).off + 2, none⟩ = some (.int .u16 x.n))
          (first | with_reducible exact HS9.out _ hb5 | with_reducible exact HS9.out _ hb4 | exact HS90.out)
          (first | (go_at_call 104; refine HLH.out.mono ?_; rintro e w4 ⟨rfl, hb4⟩) | (go_at_call 94; refine (HKD.out _ _).mono ?_; rintro e w5 ⟨rfl, hb5'⟩; have hb5 := hb4.trans (hb5'.mono hb4.size)))
        have B5 : Below wr.heap.size wr w5 := (Below.refl _ _).drew.trans hb5
        have HB5 := Go.Lib.hid B5
        have sz5 := B5.size
        clear hb4 hb5 hb5' B5 HLH HKD
        generalize kindF x.kind tb = kd at *
        have HB75 := Go.Lib.hid (HB7.out.keep HB5.out)
        have HK75 := Go.Lib.hid (HK7.out.keep HB5.out)
        have HCH5 := Go.Lib.hid (HCH.out.below HB5.out)
        have HE5 := Go.Lib.hid (HE.out.keep HB5.out)
        have gab5 : (ad.add (j * 3)).block < w5.heap.size := by omega
        have l75 : w3.heap.size < w5.heap.size := by omega
        clear gab l70
        by_cases h1 : kd = 1
        · subst h1
          rw [if_pos rfl] at HD
          have q5 := HXC.out O w5 w5.drew HCH5.out (Below.refl _ _).drew
          have q51 := q5.2.1
          clear q5
          have c0 : w5.drew.cell? ⟨w3.heap.size, 0, none⟩ = some (.int .i64 s.c) := HB75.out.cell 0
          have c1 : w5.drew.cell? ⟨w3.heap.size, 1, none⟩ = some (.slice y0 yn0 yc0) := HB75.out.cell 1
          have c2 : w5.drew.cell? ⟨w3.heap.size, 2, none⟩ = some (.slice y1 yn1 yc1) := HB75.out.cell 2
          have c3 : w5.drew.cell? ⟨w3.heap.size, 3, none⟩ = some (.slice y2 yn2 yc2) := HB75.out.cell 3
          have HT := Go.Lib.hid (twl_touch s _ _ _ x.key w5.drew HS.out (HK75.out.keep (Below.refl _ _).drew))
          generalize touchT s x.key = t at *
          obtain ⟨g, hg⟩ : ∃ g : List Int, g = [] := ⟨_, rfl⟩
          rw [← hg] at HD
          have HG := Go.Lib.hid hg
          clear hg
          have HKX := Go.Lib.hid (fun W' (hb : Below w5.drew.heap.size w5.drew W') => (HXC.out O w5 W' HCH5.out ((Below.refl _ _).drew.trans hb)).2.1)
          have HKS := Go.Lib.hid (fun (w6 : World) (hb : Below w5.drew.heap.size w5.drew w6) (x0 x1 x2 x3 : Value) => show ((((w6.setCell ⟨w3.heap.size, 0, none⟩ x0).setCell ⟨w3.heap.size, 1, none⟩ x1).setCell ⟨w3.heap.size, 2, none⟩ x2).setCell ⟨w3.heap.size, 3, none⟩ x3).cell? ⟨(ad.add (j * 3)).block, (ad.add (j * 3)).off + 1, none⟩ = some (.int .u64 x.key) from by
            have F : Fr (fun k => k = w3.heap.size) w6 ((((w6.setCell ⟨w3.heap.size, 0, none⟩ x0).setCell ⟨w3.heap.size, 1, none⟩ x1).setCell ⟨w3.heap.size, 2, none⟩ x2).setCell ⟨w3.heap.size, 3, none⟩ x3) := ((((Fr.refl (fun k => k = w3.heap.size) w6).setEq rfl _).setEq rfl _).setEq rfl _).setEq rfl _
            have q := HCH5.out.below ((Below.refl _ _).drew.trans hb)
            have q2 : Chg (fun _ => False) O w ((((w6.setCell ⟨w3.heap.size, 0, none⟩ x0).setCell ⟨w3.heap.size, 1, none⟩ x1).setCell ⟨w3.heap.size, 2, none⟩ x2).setCell ⟨w3.heap.size, 3, none⟩ x3) := ⟨q.fr.trans F (fun i e => .inr (by show w.heap.size ≤ i; rw [e]; exact hwB)), q.own⟩
            exact (HXC.out O _ _ q2 (Below.refl _ _)).2.1)
          go_wp2_with fail
          refine wp_region_held_drew (S := fun W' => W'.cell? ⟨(ad.add (j * 3)).block, (ad.add (j * 3)).off + 1, none⟩ = some (.int .u64 x.key)) (by kernel_rfl) q51 (fun hHeld => ?_)
          refine wpAnyH_take (i := 1) (v := ?v1) rfl (by kernel_rfl) (by kernel_rfl) (by kernel_rfl) (fun _ _ _ h => h) (Or.inl ⟨by rfl, ?hy1⟩) (by assumption) ?rest1
          case hy1 => intro w' hSw; (try dsimp only at hSw); go_simp; first | done | with_reducible rfl
          try simp only [Act.put, List.getElem_toArray, List.getElem_cons_succ, List.getElem_cons_zero, List.setIfInBounds_toArray, List.set_cons_zero, List.set_cons_succ]
          refine wpAnyH_take (i := 2) (v := ?v2) rfl (by kernel_rfl) (by kernel_rfl) (by kernel_rfl) (fun _ _ _ h => h) (Or.inl ⟨by rfl, ?hy2⟩) (by assumption) ?rest2
          case hy2 => intro w' hSw; (try dsimp only at hSw); go_simp; first | done | with_reducible rfl
          try simp only [Act.put, List.getElem_toArray, List.getElem_cons_succ, List.getElem_cons_zero, List.setIfInBounds_toArray, List.set_cons_zero, List.set_cons_succ]
          refine wpAnyH_take (i := 3) (v := ?v3) rfl (by kernel_rfl) (by kernel_rfl) (by kernel_rfl) (fun _ _ _ h => h) (Or.inl ⟨by rfl, ?hy3⟩) (by assumption) ?rest3
          case hy3 => intro w' hSw; (try dsimp only at hSw); go_simp; first | done | with_reducible rfl
          try simp only [Act.put, List.getElem_toArray, List.getElem_cons_succ, List.getElem_cons_zero, List.setIfInBounds_toArray, List.set_cons_zero, List.set_cons_succ]
          refine wpAnyH_take (i := 4) (v := ?v4) rfl (by kernel_rfl) (by kernel_rfl) (by kernel_rfl) (fun _ _ _ h => h) (Or.inl ⟨by rfl, ?hy4⟩) (by assumption) ?rest4
          case hy4 => intro w' hSw; (try dsimp only at hSw); go_simp; first | done | with_reducible rfl
          try simp only [Act.put, List.getElem_toArray, List.getElem_cons_succ, List.getElem_cons_zero, List.setIfInBounds_toArray, List.set_cons_zero, List.set_cons_succ]
          refine wpAnyH_take (i := 5) (v := ?v5) rfl (by kernel_rfl) (by kernel_rfl) (by kernel_rfl) (fun _ _ _ h => h) (Or.inl ⟨by rfl, ?hy5⟩) (by assumption) ?rest5
          case hy5 => intro w' hSw; (try dsimp only at hSw); go_simp; first | done | with_reducible rfl
          try simp only [Act.put, List.getElem_toArray, List.getElem_cons_succ, List.getElem_cons_zero, List.setIfInBounds_toArray, List.set_cons_zero, List.set_cons_succ]
          refine wpAnyH_ready (rs := [0]) (by kernel_rfl) (by simp) ?_
          refine AllReadyH.cons rfl (fun K hK => ?_) AllReadyH.nil
          go_simp
          refine hK.out _ _ (q51) (fun hHeld => ?_)
          clear hK K
          try simp only [Act.put, List.getElem_toArray, List.getElem_cons_succ, List.getElem_cons_zero, List.setIfInBounds_toArray, List.set_cons_zero, List.set_cons_succ]
          refine wpAnyH_ready (rs := [6]) (by kernel_rfl) (by simp) ?_
          refine AllReadyH.cons rfl (fun K hK => ?_) AllReadyH.nil
          go_simp
          refine HT.out.mono ?_
          rintro e w6 ⟨z0, zn0, zc0, z1, zn1, zc1, z2, zn2, zc2, rfl, hk6, hb6⟩
          refine hK.out _ _ (HKX.out w6 hb6) (fun hHeld => ?_)
          clear hK K
          try simp only [Act.put, List.getElem_toArray, List.getElem_cons_succ, List.getElem_cons_zero, List.setIfInBounds_toArray, List.set_cons_zero, List.set_cons_succ]
          have qb := HB75.out.drew.keep hb6
          have r0 := qb.cell 0
          have r1 := qb.cell 1
          have r2 := qb.cell 2
          have r3 := qb.cell 3
          have f0 := qb.frozen 0
          have f1 := qb.frozen 1
          have f2 := qb.frozen 2
          have f3 := qb.frozen 3
          simp only [List.getElem?_cons_zero, List.getElem?_cons_succ] at r0 r1 r2 r3
          have rl := qb.lt
          refine wpAnyH_ready (rs := [7]) (by kernel_rfl) (by simp) ?_
          refine AllReadyH.cons rfl (fun K hK => ?_) AllReadyH.nil
          go_simp
          refine hK.out _ _ (HKS.out w6 hb6 _ _ _ _) (fun hHeld => ?_)
          clear hK K
          try simp only [Act.put, List.getElem_toArray, List.getElem_cons_succ, List.getElem_cons_zero, List.setIfInBounds_toArray, List.set_cons_zero, List.set_cons_succ]
          refine wpAnyH_done (by kernel_rfl) ?_ _
          have B56 : Below w5.heap.size w5 w6 := (Below.refl w5.heap.size w5).drew.trans hb6
          have kg6 : KL w6 (.slice none 0 0) g := by rw [HG.out]; exact KL.nil _
          have t7 := (HE5.out.keep B56).typ qb (by decide) (by decide)
          have E6 := HE5.out.keep B56
          obtain ⟨W7, hW7⟩ : ∃ W7, W7 = (((w6.setCell ⟨w3.heap.size, 0, none⟩ (.int .i64 t.c)).setCell ⟨w3.heap.size, 1, none⟩ (.slice z0 zn0 zc0)).setCell ⟨w3.heap.size, 2, none⟩ (.slice z1 zn1 zc1)).setCell ⟨w3.heap.size, 3, none⟩ (.slice z2 zn2 zc2) := ⟨_, rfl⟩
          have F7 : Fr (fun k => k = w3.heap.size) w6 W7 := by rw [hW7]; exact ((((Fr.refl (fun k => k = w3.heap.size) w6).setEq rfl _).setEq rfl _).setEq rfl _).setEq rfl _
          have b7 : Blk W7 w3.heap.size [.int .i64 t.c, .slice z0 zn0 zc0, .slice z1 zn1 zc1, .slice z2 zn2 zc2] 66 := by rw [hW7]; exact (((qb.set 0 _).set 1 _).set 2 _).set 3 _
          have k7 : TL W7 (.slice z0 zn0 zc0) (.slice z1 zn1 zc1) (.slice z2 zn2 zc2) t := hk6.fr F7 (fun v L hk b hb e => hk.ne qb (by decide) b hb e)
          have g7 : KL W7 (.slice none 0 0) g := kg6.fr2 F7 (fun b hb e => kg6.ne qb (by decide) b hb e)
          have E7 : Tqa W7 px O s p := E6.frame F7 (fun k hk e => t7 (by rw [← e]; exact hk))
          have ch7 : Chg (fun _ => False) O w W7 := by
            have q := HCH5.out.below B56
            exact ⟨q.fr.trans F7 (fun i e => .inr (by show w.heap.size ≤ i; rw [e]; exact hwB)), q.own⟩
          have Dr := (Below.refl W7.heap.size W7).drew
          have hso : TS.ok (doT s x).1 := doT_ok HS.out HXO.out
          have HDO := Go.Lib.hid (qdo_any px s x W7.drew HXO.out HS.out (by omega) (E7.keep Dr))
          rw [HD.out] at HDO hso
          simp only at HDO hso
          have HSO := Go.Lib.hid hso
          have HS22 := Go.Lib.hid (fun (W8 W' : World) (O' : Nat → Prop) (b : Blk W8 w3.heap.size [.int .i64 t.c, .slice z0 zn0 zc0, .slice z1 zn1 zc1, .slice z2 zn2 zc2] 66) (ch : Chg (fun _ => False) O' w W8) (hb : Below W8.heap.size W8 W') => (have q := HXC.out O' W8 W' ch hb; have b' := b.keep hb; (⟨b'.cell 0, b'.cell 1, b'.cell 2, b'.cell 3, q.1, q.2.1, q.2.2⟩ : W'.cell? ⟨w3.heap.size, 0, none⟩ = some (.int .i64 t.c) ∧ W'.cell? ⟨w3.heap.size, 1, none⟩ = some (.slice z0 zn0 zc0) ∧ W'.cell? ⟨w3.heap.size, 2, none⟩ = some (.slice z1 zn1 zc1) ∧ W'.cell? ⟨w3.heap.size, 3, none⟩ = some (.slice z2 zn2 zc2) ∧ W'.cell? (ad.add (j * 3)) = some (.int .u8 x.kind) ∧ W'.cell? ⟨(ad.add (j * 3)).block, (ad.add (j * 3)).off + 1, none⟩ = some (.int .u64 x.key) ∧ W'.cell? ⟨(ad.add (j * 3)).block, (ad.add (j * 3)).off + 2, none⟩ = some (.int .u16 x.n))))
          have HS220 := Go.Lib.hid (HS22.out _ _ _ b7 ch7 Dr)
          have Hk7 := Go.Lib.hid (k7.keep Dr)
          have Hg7 := Go.Lib.hid (g7.keep Dr)
          have HE7 := Go.Lib.hid (E7.keep Dr)
          have HCH7 := Go.Lib.hid (ch7.below Dr)
          have HT7 := Go.Lib.hid ((E7.keep Dr).typ (b7.keep Dr) (by decide) (by decide))
          have HBd := Go.Lib.hid (b7.keep Dr)
          have l77 := b7.lt
          have hss := F7.size
          have hsz := B56.size
          have gab7 : (ad.add (j * 3)).block < W7.heap.size := by omega
          have HW7 := Go.Lib.hid hW7
          rw [← hW7]
          clear hW7 B56 E6 t7 F7 b7 k7 g7 E7 ch7 Dr hso
          clear hb6 hk6 kg6 qb r0 r1 r2 r3 f0 f1 f2 f3 rl c0 c1 c2 c3 q51
          go_wp2_with fail
          go_region_held3 (fun W' => W'.cell? ⟨w3.heap.size, 0, none⟩ = some (.int .i64 t.c) ∧ W'.cell? ⟨w3.heap.size, 1, none⟩ = some (.slice z0 zn0 zc0) ∧ W'.cell? ⟨w3.heap.size, 2, none⟩ = some (.slice z1 zn1 zc1) ∧ W'.cell? ⟨w3.heap.size, 3, none⟩ = some (.slice z2 zn2 zc2) ∧ W'.cell? (ad.add (j * 3)) = some (.int .u8 x.kind) ∧ W'.cell? ⟨(ad.add (j * 3)).block, (ad.add (j * 3)).off + 1, none⟩ = some (.int .u64 x.key) ∧ W'.cell? ⟨(ad.add (j * 3)).block, (ad.add (j * 3)).off + 2, none⟩ = some (.int .u16 x.n))
            (first | with_reducible exact HS22.out _ _ _ b78 ch8 hb13 | with_reducible exact HS22.out _ _ _ b78 ch8 hb12 | with_reducible exact HS22.out _ _ _ b78 ch8 hb11 | with_reducible exact HS22.out _ _ _ b78 ch8 hb10 | with_reducible exact HS22.out _ _ _ b78 ch8 hb9 | with_reducible exact HS22.out _ _ _ b78 ch8 (Below.refl _ _) | exact HS220.out)
            (first | (go_at_call 44; refine HDO.out.mono ?_; rintro e w8 ⟨vo, O9, p9, rfl, hko, hE8, hC8, hp8⟩; (have b78 := hC8.blk HT7.out HBd.out; have ch8 := HCH7.out.trans hC8; have kg8 := Hg7.out.fr2 hC8.fr (HE7.out.kl Hg7.out); have k78 := Hk7.out.fr hC8.fr (fun v L hk => HE7.out.kl hk))) | (go_at_call 24; have z2 := hkl; refine (same_rfq _ _ _ _ (hkk.keep hb11') z2).mono ?_; rintro e w12 ⟨rfl, hb12'⟩; have hb12 := hb11.trans (hb12'.mono hb11.size)) | (go_at_call 24; refine (same_rfq _ _ _ _ hko kg8).mono ?_; rintro e w9 ⟨rfl, hb9⟩) | (go_at_call 49; refine (tkeys_any px _ (hE8.keep hb9)).mono ?_; rintro e w10 ⟨vk, rfl, hkk, hb10'⟩; have hb10 := hb9.trans (hb10'.mono hb9.size)) | (go_at_call 109; refine (twl_keys t _ _ _ _ HSO.out (k78.keep hb10)).mono ?_; rintro e w11 ⟨vl, rfl, hkl, hb11'⟩; have hb11 := hb10.trans (hb11'.mono hb10.size)) | (go_at_call 51; refine (tghosts_any px _ (hE8.keep hb12)).mono ?_; rintro e w13' ⟨rfl, rfl⟩) | (go_at_call 110; refine (twl_ghosts t _ _ _ _ (k78.keep hb12)).mono ?_; rintro e w13 ⟨rfl, hb13'⟩; have hb13 := hb12.trans (hb13'.mono hb12.size)))
          have HE9 := Go.Lib.hid (hE8.keep hb13)
          have Hb9 := Go.Lib.hid (b78.keep hb13)
          have Hk9 := Go.Lib.hid (k78.keep hb13)
          have HC9 := Go.Lib.hid (ch8.below hb13)
          have hpp : p9 ≤ 28 := by have q1 := hp8; have q2 := HS.out.hi; omega
          clear hb9 hb10 hb11 hb12 hb13 hb10' hb11' hb12' hb13' hko hE8 hC8 hp8 b78 ch8 kg8 k78 hkk hkl z2
          go_wp2_with fail
          go_roundw
          case rel => exact ⟨j + 1, t, O9, p9, _, _, _, by omega, by go_num, HSO.out, hpp, HE9.out, Hb9.out, Hk9.out, HC9.out⟩
          case measure => simp [intOf]; omega
        rw [if_neg h1] at HD
        by_cases h2 : kd = 2
        · subst h2
          rw [if_pos rfl] at HD
          have S1 := fun W' (hb : Below w5.drew.heap.size w5.drew W') => (have q := HXC.out O w5 W' HCH5.out ((Below.refl _ _).drew.trans hb); have b := HB75.out.keep ((Below.refl _ _).drew.trans hb); (⟨b.cell 0, b.cell 1, b.cell 2, b.cell 3, q.1, q.2.1, q.2.2⟩ : W'.cell? ⟨w3.heap.size, 0, none⟩ = some (.int .i64 s.c) ∧ W'.cell? ⟨w3.heap.size, 1, none⟩ = some (.slice y0 yn0 yc0) ∧ W'.cell? ⟨w3.heap.size, 2, none⟩ = some (.slice y1 yn1 yc1) ∧ W'.cell? ⟨w3.heap.size, 3, none⟩ = some (.slice y2 yn2 yc2) ∧ W'.cell? (ad.add (j * 3)) = some (.int .u8 x.kind) ∧ W'.cell? ⟨(ad.add (j * 3)).block, (ad.add (j * 3)).off + 1, none⟩ = some (.int .u64 x.key) ∧ W'.cell? ⟨(ad.add (j * 3)).block, (ad.add (j * 3)).off + 2, none⟩ = some (.int .u16 x.n)))
          have S3 := fun W' u0 u1 u2 u3 (hb : Below w5.drew.heap.size w5.drew W') => S1 ((((W'.setCell ⟨w5.heap.size, 0, none⟩ u0).setCell ⟨w5.heap.size, 1, none⟩ u1).setCell ⟨w5.heap.size, 2, none⟩ u2).setCell ⟨w5.heap.size, 3, none⟩ u3) (below_set (below_set (below_set (below_set hb (Nat.le_refl _) u0) (Nat.le_refl _) u1) (Nat.le_refl _) u2) (Nat.le_refl _) u3)
          have HS1 := Go.Lib.hid S1
          have HS3 := Go.Lib.hid S3
          have HS0 := Go.Lib.hid (S1 _ (Below.refl _ _))
          clear S1 S3
          have HRD := Go.Lib.hid (fun W (hb : Below w5.drew.heap.size w5.drew W) => twl_admit s _ _ _ x.key W HS.out (HK75.out.keep ((Below.refl _ _).drew.trans hb)))
          obtain ⟨t, g, htg⟩ : ∃ t g, admitT s x.key = (t, g) := ⟨_, _, rfl⟩
          rw [htg] at HD HRD
          clear htg
          simp only at HRD
          go_wp2_with fail
          go_region_held3 (fun W' => W'.cell? ⟨w3.heap.size, 0, none⟩ = some (.int .i64 s.c) ∧ W'.cell? ⟨w3.heap.size, 1, none⟩ = some (.slice y0 yn0 yc0) ∧ W'.cell? ⟨w3.heap.size, 2, none⟩ = some (.slice y1 yn1 yc1) ∧ W'.cell? ⟨w3.heap.size, 3, none⟩ = some (.slice y2 yn2 yc2) ∧ W'.cell? (ad.add (j * 3)) = some (.int .u8 x.kind) ∧ W'.cell? ⟨(ad.add (j * 3)).block, (ad.add (j * 3)).off + 1, none⟩ = some (.int .u64 x.key) ∧ W'.cell? ⟨(ad.add (j * 3)).block, (ad.add (j * 3)).off + 2, none⟩ = some (.int .u16 x.n))
            (first | with_reducible exact HS1.out _ ((Below.refl _ _).alloc (Nat.le_refl _) _) | with_reducible exact HS1.out _ hb6' | with_reducible exact HS1.out _ (hb6'.alloc hb6'.size _) | with_reducible exact HS3.out _ _ _ _ _ hb6' | exact HS0.out)
            (first | (go_at_call 106; refine (HRD.out _ (by first | exact Below.refl _ _ | exact (Below.refl _ _).alloc (Nat.le_refl _) _)).mono ?_; rintro e w6 ⟨z0, zn0, zc0, z1, zn1, zc1, z2, zn2, zc2, ag, ng, cg, rfl, hk6, hg6, hb6⟩; (have hb6' : Below w5.drew.heap.size w5.drew w6 := by first | exact hb6 | exact ((Below.refl _ _).alloc (Nat.le_refl _) _).trans (hb6.mono (by simp))); (try (have b10 := (Blk.new0 w5.drew [.int .i64 0, .slice none 0 0, .slice none 0 0, .slice none 0 0] 66).keep hb6; have d0 := b10.cell 0; have d1 := b10.cell 1; have d2 := b10.cell 2; have d3 := b10.cell 3; have h0 := b10.frozen 0; have h1 := b10.frozen 1; have h2 := b10.frozen 2; have h3 := b10.frozen 3; simp only [List.getElem?_cons_zero, List.getElem?_cons_succ, World.size_drew] at d0 d1 d2 d3 h0 h1 h2 h3; have l10 := b10.lt; (try simp only [World.size_drew] at l10)))))
          · have B56 : Below w5.heap.size w5 w6 := (Below.refl _ _).drew.trans hb6'
            obtain ⟨W6, hW6⟩ : ∃ W6, W6 = w6.alloc (.cells #[.int .i64 t.c, .slice z0 zn0 zc0, .slice z1 zn1 zc1, .slice z2 zn2 zc2] 66) := ⟨_, rfl⟩
            have B66 : Below w6.heap.size w6 W6 := by rw [hW6]; exact (Below.refl _ _).alloc (Nat.le_refl _) _
            have c10 : Blk W6 w6.heap.size [.int .i64 t.c, .slice z0 zn0 zc0, .slice z1 zn1 zc1, .slice z2 zn2 zc2] 66 := by rw [hW6]; exact Blk.new0 w6 _ _
            have hB6 : Below w5.heap.size w5 W6 := B56.trans (B66.mono B56.size)
            have hBn : w3.heap.size < w6.heap.size := by have := B56.size; omega
            have k6 := hk6.keep B66
            have g6 := hg6.keep B66
            rw [← hW6]
            clear hW6 B66 B56 hk6 hg6 hb6 hb6' 
            generalize w6.heap.size = B10 at *
            have b7w := HB75.out.keep hB6
            have hne : w3.heap.size ≠ B10 := by omega
            have hne' : B10 ≠ w3.heap.size := hne.symm
            have r0 := b7w.cell 0
            have r1 := b7w.cell 1
            have r2 := b7w.cell 2
            have r3 := b7w.cell 3
            have f0 := b7w.frozen 0
            have f1 := b7w.frozen 1
            have f2 := b7w.frozen 2
            have f3 := b7w.frozen 3
            simp only [List.getElem?_cons_zero, List.getElem?_cons_succ] at r0 r1 r2 r3
            have l7 := b7w.lt
            have d0 := c10.cell 0
            have d1 := c10.cell 1
            have d2 := c10.cell 2
            have d3 := c10.cell 3
            have h0 := c10.frozen 0
            have h1 := c10.frozen 1
            have h2 := c10.frozen 2
            have h3 := c10.frozen 3
            simp only [List.getElem?_cons_zero, List.getElem?_cons_succ] at d0 d1 d2 d3
            have l10 := c10.lt
            have B56 := hB6
            have t7 := (HE5.out.keep B56).typ b7w (by decide) (by decide)
            have E6 := HE5.out.keep B56
            obtain ⟨W7, hW7⟩ : ∃ W7, W7 = (((W6.setCell ⟨w3.heap.size, 0, none⟩ (.int .i64 t.c)).setCell ⟨w3.heap.size, 1, none⟩ (.slice z0 zn0 zc0)).setCell ⟨w3.heap.size, 2, none⟩ (.slice z1 zn1 zc1)).setCell ⟨w3.heap.size, 3, none⟩ (.slice z2 zn2 zc2) := ⟨_, rfl⟩
            have F7 : Fr (fun k => k = w3.heap.size) W6 W7 := by rw [hW7]; exact ((((Fr.refl (fun k => k = w3.heap.size) W6).setEq rfl _).setEq rfl _).setEq rfl _).setEq rfl _
            have b7 : Blk W7 w3.heap.size [.int .i64 t.c, .slice z0 zn0 zc0, .slice z1 zn1 zc1, .slice z2 zn2 zc2] 66 := by rw [hW7]; exact (((b7w.set 0 _).set 1 _).set 2 _).set 3 _
            have k7 : TL W7 (.slice z0 zn0 zc0) (.slice z1 zn1 zc1) (.slice z2 zn2 zc2) t := k6.fr F7 (fun v L hk b hb e => hk.ne b7w (by decide) b hb e)
            have g7 : KL W7 (.slice ag ng cg) g := g6.fr2 F7 (fun b hb e => g6.ne b7w (by decide) b hb e)
            have E7 : Tqa W7 px O s p := E6.frame F7 (fun k hk e => t7 (by rw [← e]; exact hk))
            have ch7 : Chg (fun _ => False) O w W7 := by
              have q := HCH5.out.below B56
              exact ⟨q.fr.trans F7 (fun i e => .inr (by show w.heap.size ≤ i; rw [e]; exact hwB)), q.own⟩
            have Dr := (Below.refl W7.heap.size W7).drew
            have hso : TS.ok (doT s x).1 := doT_ok HS.out HXO.out
            have HDO := Go.Lib.hid (qdo_any px s x W7.drew HXO.out HS.out (by omega) (E7.keep Dr))
            rw [HD.out] at HDO hso
            simp only at HDO hso
            have HSO := Go.Lib.hid hso
            have HS22 := Go.Lib.hid (fun (W8 W' : World) (O' : Nat → Prop) (b : Blk W8 w3.heap.size [.int .i64 t.c, .slice z0 zn0 zc0, .slice z1 zn1 zc1, .slice z2 zn2 zc2] 66) (ch : Chg (fun _ => False) O' w W8) (hb : Below W8.heap.size W8 W') => (have q := HXC.out O' W8 W' ch hb; have b' := b.keep hb; (⟨b'.cell 0, b'.cell 1, b'.cell 2, b'.cell 3, q.1, q.2.1, q.2.2⟩ : W'.cell? ⟨w3.heap.size, 0, none⟩ = some (.int .i64 t.c) ∧ W'.cell? ⟨w3.heap.size, 1, none⟩ = some (.slice z0 zn0 zc0) ∧ W'.cell? ⟨w3.heap.size, 2, none⟩ = some (.slice z1 zn1 zc1) ∧ W'.cell? ⟨w3.heap.size, 3, none⟩ = some (.slice z2 zn2 zc2) ∧ W'.cell? (ad.add (j * 3)) = some (.int .u8 x.kind) ∧ W'.cell? ⟨(ad.add (j * 3)).block, (ad.add (j * 3)).off + 1, none⟩ = some (.int .u64 x.key) ∧ W'.cell? ⟨(ad.add (j * 3)).block, (ad.add (j * 3)).off + 2, none⟩ = some (.int .u16 x.n))))
            have HS220 := Go.Lib.hid (HS22.out _ _ _ b7 ch7 Dr)
            have Hk7 := Go.Lib.hid (k7.keep Dr)
            have Hg7 := Go.Lib.hid (g7.keep Dr)
            have HE7 := Go.Lib.hid (E7.keep Dr)
            have HCH7 := Go.Lib.hid (ch7.below Dr)
            have HT7 := Go.Lib.hid ((E7.keep Dr).typ (b7.keep Dr) (by decide) (by decide))
            have HBd := Go.Lib.hid (b7.keep Dr)
            have l77 := b7.lt
            have hss := F7.size
            have hsz := B56.size
            have gab7 : (ad.add (j * 3)).block < W7.heap.size := by omega
            have HW7 := Go.Lib.hid hW7
            clear hW7 B56 E6 t7 F7 b7 k7 g7 E7 ch7 Dr hso
            clear hB6 b7w k6 g6 c10
            go_wp2_with fail
            rw [← HW7.out]
            clear r0 r1 r2 r3 f0 f1 f2 f3 d0 d1 d2 d3 h0 h1 h2 h3 l7 l10
            go_region_held3 (fun W' => W'.cell? ⟨w3.heap.size, 0, none⟩ = some (.int .i64 t.c) ∧ W'.cell? ⟨w3.heap.size, 1, none⟩ = some (.slice z0 zn0 zc0) ∧ W'.cell? ⟨w3.heap.size, 2, none⟩ = some (.slice z1 zn1 zc1) ∧ W'.cell? ⟨w3.heap.size, 3, none⟩ = some (.slice z2 zn2 zc2) ∧ W'.cell? (ad.add (j * 3)) = some (.int .u8 x.kind) ∧ W'.cell? ⟨(ad.add (j * 3)).block, (ad.add (j * 3)).off + 1, none⟩ = some (.int .u64 x.key) ∧ W'.cell? ⟨(ad.add (j * 3)).block, (ad.add (j * 3)).off + 2, none⟩ = some (.int .u16 x.n))
              (first | with_reducible exact HS22.out _ _ _ b78 ch8 hb13 | with_reducible exact HS22.out _ _ _ b78 ch8 hb12 | with_reducible exact HS22.out _ _ _ b78 ch8 hb11 | with_reducible exact HS22.out _ _ _ b78 ch8 hb10 | with_reducible exact HS22.out _ _ _ b78 ch8 hb9 | with_reducible exact HS22.out _ _ _ b78 ch8 (Below.refl _ _) | exact HS220.out)
              (first | (go_at_call 44; refine HDO.out.mono ?_; rintro e w8 ⟨vo, O9, p9, rfl, hko, hE8, hC8, hp8⟩; (have b78 := hC8.blk HT7.out HBd.out; have ch8 := HCH7.out.trans hC8; have kg8 := Hg7.out.fr2 hC8.fr (HE7.out.kl Hg7.out); have k78 := Hk7.out.fr hC8.fr (fun v L hk => HE7.out.kl hk))) | (go_at_call 24; have z2 := hkl; refine (same_rfq _ _ _ _ (hkk.keep hb11') z2).mono ?_; rintro e w12 ⟨rfl, hb12'⟩; have hb12 := hb11.trans (hb12'.mono hb11.size)) | (go_at_call 24; refine (same_rfq _ _ _ _ hko kg8).mono ?_; rintro e w9 ⟨rfl, hb9⟩) | (go_at_call 49; refine (tkeys_any px _ (hE8.keep hb9)).mono ?_; rintro e w10 ⟨vk, rfl, hkk, hb10'⟩; have hb10 := hb9.trans (hb10'.mono hb9.size)) | (go_at_call 109; refine (twl_keys t _ _ _ _ HSO.out (k78.keep hb10)).mono ?_; rintro e w11 ⟨vl, rfl, hkl, hb11'⟩; have hb11 := hb10.trans (hb11'.mono hb10.size)) | (go_at_call 51; refine (tghosts_any px _ (hE8.keep hb12)).mono ?_; rintro e w13' ⟨rfl, rfl⟩) | (go_at_call 110; refine (twl_ghosts t _ _ _ _ (k78.keep hb12)).mono ?_; rintro e w13 ⟨rfl, hb13'⟩; have hb13 := hb12.trans (hb13'.mono hb12.size)))
            have HE9 := Go.Lib.hid (hE8.keep hb13)
            have Hb9 := Go.Lib.hid (b78.keep hb13)
            have Hk9 := Go.Lib.hid (k78.keep hb13)
            have HC9 := Go.Lib.hid (ch8.below hb13)
            have hpp : p9 ≤ 28 := by have q1 := hp8; have q2 := HS.out.hi; omega
            clear hb9 hb10 hb11 hb12 hb13 hb10' hb11' hb12' hb13' hko hE8 hC8 hp8 b78 ch8 kg8 k78 hkk hkl z2
            go_wp2_with fail
            go_roundw
            case rel => exact ⟨j + 1, t, O9, p9, _, _, _, by omega, by go_num, HSO.out, hpp, HE9.out, Hb9.out, Hk9.out, HC9.out⟩
            case measure => simp [intOf]; omega
          · have B56 : Below w5.heap.size w5 w6 := (Below.refl _ _).drew.trans hb6'
            obtain ⟨W6, hW6⟩ : ∃ W6, W6 = (((w6.setCell ⟨w5.heap.size, 0, none⟩ (.int .i64 t.c)).setCell ⟨w5.heap.size, 1, none⟩ (.slice z0 zn0 zc0)).setCell ⟨w5.heap.size, 2, none⟩ (.slice z1 zn1 zc1)).setCell ⟨w5.heap.size, 3, none⟩ (.slice z2 zn2 zc2) := ⟨_, rfl⟩
            have F6 : Fr (fun k => k = w5.heap.size) w6 W6 := by rw [hW6]; exact ((((Fr.refl (fun k => k = w5.heap.size) w6).setEq rfl _).setEq rfl _).setEq rfl _).setEq rfl _
            have hB6 : Below w5.heap.size w5 W6 := by rw [hW6]; exact (below_set (below_set (below_set (below_set B56 (Nat.le_refl _) _) (Nat.le_refl _) _) (Nat.le_refl _) _) (Nat.le_refl _) _)
            have c10 : Blk W6 (w5.heap.size) [.int .i64 t.c, .slice z0 zn0 zc0, .slice z1 zn1 zc1, .slice z2 zn2 zc2] 66 := by rw [hW6]; exact (((b10.set 0 _).set 1 _).set 2 _).set 3 _
            have k6 := hk6.fr F6 (fun v L hk b hb e => hk.ne b10 (by decide) b hb e)
            have g6 := hg6.fr2 F6 (fun b hb e => hg6.ne b10 (by decide) b hb e)
            have hBn : w3.heap.size < w5.heap.size := by exact l75
            rw [← hW6]
            clear hW6 F6 B56 hk6 hg6 hb6 hb6'  b10 d0 d1 d2 d3 h0 h1 h2 h3 l10
            generalize hBB : w5.heap.size = B10 at c10 hBn ⊢
            clear hBB
            have b7w := HB75.out.keep hB6
            have hne : w3.heap.size ≠ B10 := by omega
            have hne' : B10 ≠ w3.heap.size := hne.symm
            have r0 := b7w.cell 0
            have r1 := b7w.cell 1
            have r2 := b7w.cell 2
            have r3 := b7w.cell 3
            have f0 := b7w.frozen 0
            have f1 := b7w.frozen 1
            have f2 := b7w.frozen 2
            have f3 := b7w.frozen 3
            simp only [List.getElem?_cons_zero, List.getElem?_cons_succ] at r0 r1 r2 r3
            have l7 := b7w.lt
            have d0 := c10.cell 0
            have d1 := c10.cell 1
            have d2 := c10.cell 2
            have d3 := c10.cell 3
            have h0 := c10.frozen 0
            have h1 := c10.frozen 1
            have h2 := c10.frozen 2
            have h3 := c10.frozen 3
            simp only [List.getElem?_cons_zero, List.getElem?_cons_succ] at d0 d1 d2 d3
            have l10 := c10.lt
            have B56 := hB6
            have t7 := (HE5.out.keep B56).typ b7w (by decide) (by decide)
            have E6 := HE5.out.keep B56
            obtain ⟨W7, hW7⟩ : ∃ W7, W7 = (((W6.setCell ⟨w3.heap.size, 0, none⟩ (.int .i64 t.c)).setCell ⟨w3.heap.size, 1, none⟩ (.slice z0 zn0 zc0)).setCell ⟨w3.heap.size, 2, none⟩ (.slice z1 zn1 zc1)).setCell ⟨w3.heap.size, 3, none⟩ (.slice z2 zn2 zc2) := ⟨_, rfl⟩
            have F7 : Fr (fun k => k = w3.heap.size) W6 W7 := by rw [hW7]; exact ((((Fr.refl (fun k => k = w3.heap.size) W6).setEq rfl _).setEq rfl _).setEq rfl _).setEq rfl _
            have b7 : Blk W7 w3.heap.size [.int .i64 t.c, .slice z0 zn0 zc0, .slice z1 zn1 zc1, .slice z2 zn2 zc2] 66 := by rw [hW7]; exact (((b7w.set 0 _).set 1 _).set 2 _).set 3 _
            have k7 : TL W7 (.slice z0 zn0 zc0) (.slice z1 zn1 zc1) (.slice z2 zn2 zc2) t := k6.fr F7 (fun v L hk b hb e => hk.ne b7w (by decide) b hb e)
            have g7 : KL W7 (.slice ag ng cg) g := g6.fr2 F7 (fun b hb e => g6.ne b7w (by decide) b hb e)
            have E7 : Tqa W7 px O s p := E6.frame F7 (fun k hk e => t7 (by rw [← e]; exact hk))
            have ch7 : Chg (fun _ => False) O w W7 := by
              have q := HCH5.out.below B56
              exact ⟨q.fr.trans F7 (fun i e => .inr (by show w.heap.size ≤ i; rw [e]; exact hwB)), q.own⟩
            have Dr := (Below.refl W7.heap.size W7).drew
            have hso : TS.ok (doT s x).1 := doT_ok HS.out HXO.out
            have HDO := Go.Lib.hid (qdo_any px s x W7.drew HXO.out HS.out (by omega) (E7.keep Dr))
            rw [HD.out] at HDO hso
            simp only at HDO hso
            have HSO := Go.Lib.hid hso
            have HS22 := Go.Lib.hid (fun (W8 W' : World) (O' : Nat → Prop) (b : Blk W8 w3.heap.size [.int .i64 t.c, .slice z0 zn0 zc0, .slice z1 zn1 zc1, .slice z2 zn2 zc2] 66) (ch : Chg (fun _ => False) O' w W8) (hb : Below W8.heap.size W8 W') => (have q := HXC.out O' W8 W' ch hb; have b' := b.keep hb; (⟨b'.cell 0, b'.cell 1, b'.cell 2, b'.cell 3, q.1, q.2.1, q.2.2⟩ : W'.cell? ⟨w3.heap.size, 0, none⟩ = some (.int .i64 t.c) ∧ W'.cell? ⟨w3.heap.size, 1, none⟩ = some (.slice z0 zn0 zc0) ∧ W'.cell? ⟨w3.heap.size, 2, none⟩ = some (.slice z1 zn1 zc1) ∧ W'.cell? ⟨w3.heap.size, 3, none⟩ = some (.slice z2 zn2 zc2) ∧ W'.cell? (ad.add (j * 3)) = some (.int .u8 x.kind) ∧ W'.cell? ⟨(ad.add (j * 3)).block, (ad.add (j * 3)).off + 1, none⟩ = some (.int .u64 x.key) ∧ W'.cell? ⟨(ad.add (j * 3)).block, (ad.add (j * 3)).off + 2, none⟩ = some (.int .u16 x.n))))
            have HS220 := Go.Lib.hid (HS22.out _ _ _ b7 ch7 Dr)
            have Hk7 := Go.Lib.hid (k7.keep Dr)
            have Hg7 := Go.Lib.hid (g7.keep Dr)
            have HE7 := Go.Lib.hid (E7.keep Dr)
            have HCH7 := Go.Lib.hid (ch7.below Dr)
            have HT7 := Go.Lib.hid ((E7.keep Dr).typ (b7.keep Dr) (by decide) (by decide))
            have HBd := Go.Lib.hid (b7.keep Dr)
            have l77 := b7.lt
            have hss := F7.size
            have hsz := B56.size
            have gab7 : (ad.add (j * 3)).block < W7.heap.size := by omega
            have HW7 := Go.Lib.hid hW7
            clear hW7 B56 E6 t7 F7 b7 k7 g7 E7 ch7 Dr hso
            clear hB6 b7w k6 g6 c10
            go_wp2_with fail
            rw [← HW7.out]
            clear r0 r1 r2 r3 f0 f1 f2 f3 d0 d1 d2 d3 h0 h1 h2 h3 l7 l10
            go_region_held3 (fun W' => W'.cell? ⟨w3.heap.size, 0, none⟩ = some (.int .i64 t.c) ∧ W'.cell? ⟨w3.heap.size, 1, none⟩ = some (.slice z0 zn0 zc0) ∧ W'.cell? ⟨w3.heap.size, 2, none⟩ = some (.slice z1 zn1 zc1) ∧ W'.cell? ⟨w3.heap.size, 3, none⟩ = some (.slice z2 zn2 zc2) ∧ W'.cell? (ad.add (j * 3)) = some (.int .u8 x.kind) ∧ W'.cell? ⟨(ad.add (j * 3)).block, (ad.add (j * 3)).off + 1, none⟩ = some (.int .u64 x.key) ∧ W'.cell? ⟨(ad.add (j * 3)).block, (ad.add (j * 3)).off + 2, none⟩ = some (.int .u16 x.n))
              (first | with_reducible exact HS22.out _ _ _ b78 ch8 hb13 | with_reducible exact HS22.out _ _ _ b78 ch8 hb12 | with_reducible exact HS22.out _ _ _ b78 ch8 hb11 | with_reducible exact HS22.out _ _ _ b78 ch8 hb10 | with_reducible exact HS22.out _ _ _ b78 ch8 hb9 | with_reducible exact HS22.out _ _ _ b78 ch8 (Below.refl _ _) | exact HS220.out)
              (first | (go_at_call 44; refine HDO.out.mono ?_; rintro e w8 ⟨vo, O9, p9, rfl, hko, hE8, hC8, hp8⟩; (have b78 := hC8.blk HT7.out HBd.out; have ch8 := HCH7.out.trans hC8; have kg8 := Hg7.out.fr2 hC8.fr (HE7.out.kl Hg7.out); have k78 := Hk7.out.fr hC8.fr (fun v L hk => HE7.out.kl hk))) | (go_at_call 24; have z2 := hkl; refine (same_rfq _ _ _ _ (hkk.keep hb11') z2).mono ?_; rintro e w12 ⟨rfl, hb12'⟩; have hb12 := hb11.trans (hb12'.mono hb11.size)) | (go_at_call 24; refine (same_rfq _ _ _ _ hko kg8).mono ?_; rintro e w9 ⟨rfl, hb9⟩) | (go_at_call 49; refine (tkeys_any px _ (hE8.keep hb9)).mono ?_; rintro e w10 ⟨vk, rfl, hkk, hb10'⟩; have hb10 := hb9.trans (hb10'.mono hb9.size)) | (go_at_call 109; refine (twl_keys t _ _ _ _ HSO.out (k78.keep hb10)).mono ?_; rintro e w11 ⟨vl, rfl, hkl, hb11'⟩; have hb11 := hb10.trans (hb11'.mono hb10.size)) | (go_at_call 51; refine (tghosts_any px _ (hE8.keep hb12)).mono ?_; rintro e w13' ⟨rfl, rfl⟩) | (go_at_call 110; refine (twl_ghosts t _ _ _ _ (k78.keep hb12)).mono ?_; rintro e w13 ⟨rfl, hb13'⟩; have hb13 := hb12.trans (hb13'.mono hb12.size)))
            have HE9 := Go.Lib.hid (hE8.keep hb13)
            have Hb9 := Go.Lib.hid (b78.keep hb13)
            have Hk9 := Go.Lib.hid (k78.keep hb13)
            have HC9 := Go.Lib.hid (ch8.below hb13)
            have hpp : p9 ≤ 28 := by have q1 := hp8; have q2 := HS.out.hi; omega
            clear hb9 hb10 hb11 hb12 hb13 hb10' hb11' hb12' hb13' hko hE8 hC8 hp8 b78 ch8 kg8 k78 hkk hkl z2
            go_wp2_with fail
            go_roundw
            case rel => exact ⟨j + 1, t, O9, p9, _, _, _, by omega, by go_num, HSO.out, hpp, HE9.out, Hb9.out, Hk9.out, HC9.out⟩
            case measure => simp [intOf]; omega
        rw [if_neg h2] at HD
        by_cases h3 : kd = 3
        · subst h3
          rw [if_pos rfl] at HD
          have q5 := HXC.out O w5 w5.drew HCH5.out (Below.refl _ _).drew
          have q51 := q5.2.1
          clear q5
          have c0 : w5.drew.cell? ⟨w3.heap.size, 0, none⟩ = some (.int .i64 s.c) := HB75.out.cell 0
          have c1 : w5.drew.cell? ⟨w3.heap.size, 1, none⟩ = some (.slice y0 yn0 yc0) := HB75.out.cell 1
          have c2 : w5.drew.cell? ⟨w3.heap.size, 2, none⟩ = some (.slice y1 yn1 yc1) := HB75.out.cell 2
          have c3 : w5.drew.cell? ⟨w3.heap.size, 3, none⟩ = some (.slice y2 yn2 yc2) := HB75.out.cell 3
          have HT := Go.Lib.hid (twl_drop s _ _ _ x.key w5.drew HS.out (HK75.out.keep (Below.refl _ _).drew))
          generalize dropT s x.key = t at *
          obtain ⟨g, hg⟩ : ∃ g : List Int, g = [] := ⟨_, rfl⟩
          rw [← hg] at HD
          have HG := Go.Lib.hid hg
          clear hg
          have HKX := Go.Lib.hid (fun W' (hb : Below w5.drew.heap.size w5.drew W') => (HXC.out O w5 W' HCH5.out ((Below.refl _ _).drew.trans hb)).2.1)
          have HKS := Go.Lib.hid (fun (w6 : World) (hb : Below w5.drew.heap.size w5.drew w6) (x0 x1 x2 x3 : Value) => show ((((w6.setCell ⟨w3.heap.size, 0, none⟩ x0).setCell ⟨w3.heap.size, 1, none⟩ x1).setCell ⟨w3.heap.size, 2, none⟩ x2).setCell ⟨w3.heap.size, 3, none⟩ x3).cell? ⟨(ad.add (j * 3)).block, (ad.add (j * 3)).off + 1, none⟩ = some (.int .u64 x.key) from by
            have F : Fr (fun k => k = w3.heap.size) w6 ((((w6.setCell ⟨w3.heap.size, 0, none⟩ x0).setCell ⟨w3.heap.size, 1, none⟩ x1).setCell ⟨w3.heap.size, 2, none⟩ x2).setCell ⟨w3.heap.size, 3, none⟩ x3) := ((((Fr.refl (fun k => k = w3.heap.size) w6).setEq rfl _).setEq rfl _).setEq rfl _).setEq rfl _
            have q := HCH5.out.below ((Below.refl _ _).drew.trans hb)
            have q2 : Chg (fun _ => False) O w ((((w6.setCell ⟨w3.heap.size, 0, none⟩ x0).setCell ⟨w3.heap.size, 1, none⟩ x1).setCell ⟨w3.heap.size, 2, none⟩ x2).setCell ⟨w3.heap.size, 3, none⟩ x3) := ⟨q.fr.trans F (fun i e => .inr (by show w.heap.size ≤ i; rw [e]; exact hwB)), q.own⟩
            exact (HXC.out O _ _ q2 (Below.refl _ _)).2.1)
          go_wp2_with fail
          refine wp_region_held_drew (S := fun W' => W'.cell? ⟨(ad.add (j * 3)).block, (ad.add (j * 3)).off + 1, none⟩ = some (.int .u64 x.key)) (by kernel_rfl) q51 (fun hHeld => ?_)
          refine wpAnyH_take (i := 1) (v := ?vb1) rfl (by kernel_rfl) (by kernel_rfl) (by kernel_rfl) (fun _ _ _ h => h) (Or.inl ⟨by rfl, ?hyb1⟩) (by assumption) ?restb1
          case hyb1 => intro w' hSw; (try dsimp only at hSw); go_simp; first | done | with_reducible rfl
          try simp only [Act.put, List.getElem_toArray, List.getElem_cons_succ, List.getElem_cons_zero, List.setIfInBounds_toArray, List.set_cons_zero, List.set_cons_succ]
          refine wpAnyH_take (i := 2) (v := ?vb2) rfl (by kernel_rfl) (by kernel_rfl) (by kernel_rfl) (fun _ _ _ h => h) (Or.inl ⟨by rfl, ?hyb2⟩) (by assumption) ?restb2
          case hyb2 => intro w' hSw; (try dsimp only at hSw); go_simp; first | done | with_reducible rfl
          try simp only [Act.put, List.getElem_toArray, List.getElem_cons_succ, List.getElem_cons_zero, List.setIfInBounds_toArray, List.set_cons_zero, List.set_cons_succ]
          refine wpAnyH_take (i := 3) (v := ?vb3) rfl (by kernel_rfl) (by kernel_rfl) (by kernel_rfl) (fun _ _ _ h => h) (Or.inl ⟨by rfl, ?hyb3⟩) (by assumption) ?restb3
          case hyb3 => intro w' hSw; (try dsimp only at hSw); go_simp; first | done | with_reducible rfl
          try simp only [Act.put, List.getElem_toArray, List.getElem_cons_succ, List.getElem_cons_zero, List.setIfInBounds_toArray, List.set_cons_zero, List.set_cons_succ]
          refine wpAnyH_take (i := 4) (v := ?vb4) rfl (by kernel_rfl) (by kernel_rfl) (by kernel_rfl) (fun _ _ _ h => h) (Or.inl ⟨by rfl, ?hyb4⟩) (by assumption) ?restb4
          case hyb4 => intro w' hSw; (try dsimp only at hSw); go_simp; first | done | with_reducible rfl
          try simp only [Act.put, List.getElem_toArray, List.getElem_cons_succ, List.getElem_cons_zero, List.setIfInBounds_toArray, List.set_cons_zero, List.set_cons_succ]
          refine wpAnyH_take (i := 5) (v := ?vb5) rfl (by kernel_rfl) (by kernel_rfl) (by kernel_rfl) (fun _ _ _ h => h) (Or.inl ⟨by rfl, ?hyb5⟩) (by assumption) ?restb5
          case hyb5 => intro w' hSw; (try dsimp only at hSw); go_simp; first | done | with_reducible rfl
          try simp only [Act.put, List.getElem_toArray, List.getElem_cons_succ, List.getElem_cons_zero, List.setIfInBounds_toArray, List.set_cons_zero, List.set_cons_succ]
          refine wpAnyH_ready (rs := [0]) (by kernel_rfl) (by simp) ?_
          refine AllReadyH.cons rfl (fun K hK => ?_) AllReadyH.nil
          go_simp
          refine hK.out _ _ (q51) (fun hHeld => ?_)
          clear hK K
          try simp only [Act.put, List.getElem_toArray, List.getElem_cons_succ, List.getElem_cons_zero, List.setIfInBounds_toArray, List.set_cons_zero, List.set_cons_succ]
          refine wpAnyH_ready (rs := [6]) (by kernel_rfl) (by simp) ?_
          refine AllReadyH.cons rfl (fun K hK => ?_) AllReadyH.nil
          go_simp
          refine HT.out.mono ?_
          rintro e w6 ⟨z0, zn0, zc0, z1, zn1, zc1, z2, zn2, zc2, rfl, hk6, hb6⟩
          refine hK.out _ _ (HKX.out w6 hb6) (fun hHeld => ?_)
          clear hK K
          try simp only [Act.put, List.getElem_toArray, List.getElem_cons_succ, List.getElem_cons_zero, List.setIfInBounds_toArray, List.set_cons_zero, List.set_cons_succ]
          have qb := HB75.out.drew.keep hb6
          have r0 := qb.cell 0
          have r1 := qb.cell 1
          have r2 := qb.cell 2
          have r3 := qb.cell 3
          have f0 := qb.frozen 0
          have f1 := qb.frozen 1
          have f2 := qb.frozen 2
          have f3 := qb.frozen 3
          simp only [List.getElem?_cons_zero, List.getElem?_cons_succ] at r0 r1 r2 r3
          have rl := qb.lt
          refine wpAnyH_ready (rs := [7]) (by kernel_rfl) (by simp) ?_
          refine AllReadyH.cons rfl (fun K hK => ?_) AllReadyH.nil
          go_simp
          refine hK.out _ _ (HKS.out w6 hb6 _ _ _ _) (fun hHeld => ?_)
          clear hK K
          try simp only [Act.put, List.getElem_toArray, List.getElem_cons_succ, List.getElem_cons_zero, List.setIfInBounds_toArray, List.set_cons_zero, List.set_cons_succ]
          refine wpAnyH_done (by kernel_rfl) ?_ _
          have B56 : Below w5.heap.size w5 w6 := (Below.refl w5.heap.size w5).drew.trans hb6
          have kg6 : KL w6 (.slice none 0 0) g := by rw [HG.out]; exact KL.nil _
          have t7 := (HE5.out.keep B56).typ qb (by decide) (by decide)
          have E6 := HE5.out.keep B56
          obtain ⟨W7, hW7⟩ : ∃ W7, W7 = (((w6.setCell ⟨w3.heap.size, 0, none⟩ (.int .i64 t.c)).setCell ⟨w3.heap.size, 1, none⟩ (.slice z0 zn0 zc0)).setCell ⟨w3.heap.size, 2, none⟩ (.slice z1 zn1 zc1)).setCell ⟨w3.heap.size, 3, none⟩ (.slice z2 zn2 zc2) := ⟨_, rfl⟩
          have F7 : Fr (fun k => k = w3.heap.size) w6 W7 := by rw [hW7]; exact ((((Fr.refl (fun k => k = w3.heap.size) w6).setEq rfl _).setEq rfl _).setEq rfl _).setEq rfl _
          have b7 : Blk W7 w3.heap.size [.int .i64 t.c, .slice z0 zn0 zc0, .slice z1 zn1 zc1, .slice z2 zn2 zc2] 66 := by rw [hW7]; exact (((qb.set 0 _).set 1 _).set 2 _).set 3 _
          have k7 : TL W7 (.slice z0 zn0 zc0) (.slice z1 zn1 zc1) (.slice z2 zn2 zc2) t := hk6.fr F7 (fun v L hk b hb e => hk.ne qb (by decide) b hb e)
          have g7 : KL W7 (.slice none 0 0) g := kg6.fr2 F7 (fun b hb e => kg6.ne qb (by decide) b hb e)
          have E7 : Tqa W7 px O s p := E6.frame F7 (fun k hk e => t7 (by rw [← e]; exact hk))
          have ch7 : Chg (fun _ => False) O w W7 := by
            have q := HCH5.out.below B56
            exact ⟨q.fr.trans F7 (fun i e => .inr (by show w.heap.size ≤ i; rw [e]; exact hwB)), q.own⟩
          have Dr := (Below.refl W7.heap.size W7).drew
          have hso : TS.ok (doT s x).1 := doT_ok HS.out HXO.out
          have HDO := Go.Lib.hid (qdo_any px s x W7.drew HXO.out HS.out (by omega) (E7.keep Dr))
          rw [HD.out] at HDO hso
          simp only at HDO hso
          have HSO := Go.Lib.hid hso
          have HS22 := Go.Lib.hid (fun (W8 W' : World) (O' : Nat → Prop) (b : Blk W8 w3.heap.size [.int .i64 t.c, .slice z0 zn0 zc0, .slice z1 zn1 zc1, .slice z2 zn2 zc2] 66) (ch : Chg (fun _ => False) O' w W8) (hb : Below W8.heap.size W8 W') => (have q := HXC.out O' W8 W' ch hb; have b' := b.keep hb; (⟨b'.cell 0, b'.cell 1, b'.cell 2, b'.cell 3, q.1, q.2.1, q.2.2⟩ : W'.cell? ⟨w3.heap.size, 0, none⟩ = some (.int .i64 t.c) ∧ W'.cell? ⟨w3.heap.size, 1, none⟩ = some (.slice z0 zn0 zc0) ∧ W'.cell? ⟨w3.heap.size, 2, none⟩ = some (.slice z1 zn1 zc1) ∧ W'.cell? ⟨w3.heap.size, 3, none⟩ = some (.slice z2 zn2 zc2) ∧ W'.cell? (ad.add (j * 3)) = some (.int .u8 x.kind) ∧ W'.cell? ⟨(ad.add (j * 3)).block, (ad.add (j * 3)).off + 1, none⟩ = some (.int .u64 x.key) ∧ W'.cell? ⟨(ad.add (j * 3)).block, (ad.add (j * 3)).off + 2, none⟩ = some (.int .u16 x.n))))
          have HS220 := Go.Lib.hid (HS22.out _ _ _ b7 ch7 Dr)
          have Hk7 := Go.Lib.hid (k7.keep Dr)
          have Hg7 := Go.Lib.hid (g7.keep Dr)
          have HE7 := Go.Lib.hid (E7.keep Dr)
          have HCH7 := Go.Lib.hid (ch7.below Dr)
          have HT7 := Go.Lib.hid ((E7.keep Dr).typ (b7.keep Dr) (by decide) (by decide))
          have HBd := Go.Lib.hid (b7.keep Dr)
          have l77 := b7.lt
          have hss := F7.size
          have hsz := B56.size
          have gab7 : (ad.add (j * 3)).block < W7.heap.size := by omega
          have HW7 := Go.Lib.hid hW7
          rw [← hW7]
          clear hW7 B56 E6 t7 F7 b7 k7 g7 E7 ch7 Dr hso
          clear hb6 hk6 kg6 qb r0 r1 r2 r3 f0 f1 f2 f3 rl c0 c1 c2 c3 q51
          go_wp2_with fail
          go_region_held3 (fun W' => W'.cell? ⟨w3.heap.size, 0, none⟩ = some (.int .i64 t.c) ∧ W'.cell? ⟨w3.heap.size, 1, none⟩ = some (.slice z0 zn0 zc0) ∧ W'.cell? ⟨w3.heap.size, 2, none⟩ = some (.slice z1 zn1 zc1) ∧ W'.cell? ⟨w3.heap.size, 3, none⟩ = some (.slice z2 zn2 zc2) ∧ W'.cell? (ad.add (j * 3)) = some (.int .u8 x.kind) ∧ W'.cell? ⟨(ad.add (j * 3)).block, (ad.add (j * 3)).off + 1, none⟩ = some (.int .u64 x.key) ∧ W'.cell? ⟨(ad.add (j * 3)).block, (ad.add (j * 3)).off + 2, none⟩ = some (.int .u16 x.n))
            (first | with_reducible exact HS22.out _ _ _ b78 ch8 hb13 | with_reducible exact HS22.out _ _ _ b78 ch8 hb12 | with_reducible exact HS22.out _ _ _ b78 ch8 hb11 | with_reducible exact HS22.out _ _ _ b78 ch8 hb10 | with_reducible exact HS22.out _ _ _ b78 ch8 hb9 | with_reducible exact HS22.out _ _ _ b78 ch8 (Below.refl _ _) | exact HS220.out)
            (first | (go_at_call 44; refine HDO.out.mono ?_; rintro e w8 ⟨vo, O9, p9, rfl, hko, hE8, hC8, hp8⟩; (have b78 := hC8.blk HT7.out HBd.out; have ch8 := HCH7.out.trans hC8; have kg8 := Hg7.out.fr2 hC8.fr (HE7.out.kl Hg7.out); have k78 := Hk7.out.fr hC8.fr (fun v L hk => HE7.out.kl hk))) | (go_at_call 24; have z2 := hkl; refine (same_rfq _ _ _ _ (hkk.keep hb11') z2).mono ?_; rintro e w12 ⟨rfl, hb12'⟩; have hb12 := hb11.trans (hb12'.mono hb11.size)) | (go_at_call 24; refine (same_rfq _ _ _ _ hko kg8).mono ?_; rintro e w9 ⟨rfl, hb9⟩) | (go_at_call 49; refine (tkeys_any px _ (hE8.keep hb9)).mono ?_; rintro e w10 ⟨vk, rfl, hkk, hb10'⟩; have hb10 := hb9.trans (hb10'.mono hb9.size)) | (go_at_call 109; refine (twl_keys t _ _ _ _ HSO.out (k78.keep hb10)).mono ?_; rintro e w11 ⟨vl, rfl, hkl, hb11'⟩; have hb11 := hb10.trans (hb11'.mono hb10.size)) | (go_at_call 51; refine (tghosts_any px _ (hE8.keep hb12)).mono ?_; rintro e w13' ⟨rfl, rfl⟩) | (go_at_call 110; refine (twl_ghosts t _ _ _ _ (k78.keep hb12)).mono ?_; rintro e w13 ⟨rfl, hb13'⟩; have hb13 := hb12.trans (hb13'.mono hb12.size)))
          have HE9 := Go.Lib.hid (hE8.keep hb13)
          have Hb9 := Go.Lib.hid (b78.keep hb13)
          have Hk9 := Go.Lib.hid (k78.keep hb13)
          have HC9 := Go.Lib.hid (ch8.below hb13)
          have hpp : p9 ≤ 28 := by have q1 := hp8; have q2 := HS.out.hi; omega
          clear hb9 hb10 hb11 hb12 hb13 hb10' hb11' hb12' hb13' hko hE8 hC8 hp8 b78 ch8 kg8 k78 hkk hkl z2
          go_wp2_with fail
          go_roundw
          case rel => exact ⟨j + 1, t, O9, p9, _, _, _, by omega, by go_num, HSO.out, hpp, HE9.out, Hb9.out, Hk9.out, HC9.out⟩
          case measure => simp [intOf]; omega
        rw [if_neg h3] at HD
        have S1 := fun W' (hb : Below w5.drew.heap.size w5.drew W') => (have q := HXC.out O w5 W' HCH5.out ((Below.refl _ _).drew.trans hb); have b := HB75.out.keep ((Below.refl _ _).drew.trans hb); (⟨b.cell 0, b.cell 1, b.cell 2, b.cell 3, q.1, q.2.1, q.2.2⟩ : W'.cell? ⟨w3.heap.size, 0, none⟩ = some (.int .i64 s.c) ∧ W'.cell? ⟨w3.heap.size, 1, none⟩ = some (.slice y0 yn0 yc0) ∧ W'.cell? ⟨w3.heap.size, 2, none⟩ = some (.slice y1 yn1 yc1) ∧ W'.cell? ⟨w3.heap.size, 3, none⟩ = some (.slice y2 yn2 yc2) ∧ W'.cell? (ad.add (j * 3)) = some (.int .u8 x.kind) ∧ W'.cell? ⟨(ad.add (j * 3)).block, (ad.add (j * 3)).off + 1, none⟩ = some (.int .u64 x.key) ∧ W'.cell? ⟨(ad.add (j * 3)).block, (ad.add (j * 3)).off + 2, none⟩ = some (.int .u16 x.n)))
        have S3 := fun W' u0 u1 u2 u3 (hb : Below w5.drew.heap.size w5.drew W') => S1 ((((W'.setCell ⟨w5.heap.size, 0, none⟩ u0).setCell ⟨w5.heap.size, 1, none⟩ u1).setCell ⟨w5.heap.size, 2, none⟩ u2).setCell ⟨w5.heap.size, 3, none⟩ u3) (below_set (below_set (below_set (below_set hb (Nat.le_refl _) u0) (Nat.le_refl _) u1) (Nat.le_refl _) u2) (Nat.le_refl _) u3)
        have S3g := fun W' B u0 u1 u2 u3 (hb : Below w5.drew.heap.size w5.drew W') (hB : w5.drew.heap.size ≤ B) => S1 ((((W'.setCell ⟨B, 0, none⟩ u0).setCell ⟨B, 1, none⟩ u1).setCell ⟨B, 2, none⟩ u2).setCell ⟨B, 3, none⟩ u3) (below_set (below_set (below_set (below_set hb (hB) u0) (hB) u1) (hB) u2) (hB) u3)
        have HS3g := Go.Lib.hid S3g
        have HS1 := Go.Lib.hid S1
        have HS3 := Go.Lib.hid S3
        have HS0 := Go.Lib.hid (S1 _ (Below.refl _ _))
        clear S1 S3 S3g
        have hsz0 := sizeF_in HXO.out.2.2.1
        have HRD := Go.Lib.hid (fun W (hb : Below w5.drew.heap.size w5.drew W) => twl_resize s _ _ _ (sizeF x.n) W HS.out (by rw [capF_id hsz0]; omega) (HK75.out.keep ((Below.refl _ _).drew.trans hb)))
        have HSZ := Go.Lib.hid (fun w => sizeof_any x.kind x.key x.n w HXO.out.2.2)
        clear hsz0
        obtain ⟨t, g, htg⟩ : ∃ t g, resizeT s (sizeF x.n) = (t, g) := ⟨_, _, rfl⟩
        rw [htg] at HD HRD
        clear htg
        simp only at HRD
        go_wp2_with fail
        go_region_held3 (fun W' => W'.cell? ⟨w3.heap.size, 0, none⟩ = some (.int .i64 s.c) ∧ W'.cell? ⟨w3.heap.size, 1, none⟩ = some (.slice y0 yn0 yc0) ∧ W'.cell? ⟨w3.heap.size, 2, none⟩ = some (.slice y1 yn1 yc1) ∧ W'.cell? ⟨w3.heap.size, 3, none⟩ = some (.slice y2 yn2 yc2) ∧ W'.cell? (ad.add (j * 3)) = some (.int .u8 x.kind) ∧ W'.cell? ⟨(ad.add (j * 3)).block, (ad.add (j * 3)).off + 1, none⟩ = some (.int .u64 x.key) ∧ W'.cell? ⟨(ad.add (j * 3)).block, (ad.add (j * 3)).off + 2, none⟩ = some (.int .u16 x.n))
          (first | with_reducible exact HS1.out _ ((Below.refl _ _).alloc (Nat.le_refl _) _) | with_reducible exact HS1.out _ hb6' | with_reducible exact HS1.out _ (hb6'.alloc hb6'.size _) | with_reducible exact HS3.out _ _ _ _ _ hb6' | with_reducible exact HS3g.out _ _ _ _ _ _ hb6' hbz'.size | with_reducible exact HS1.out _ hbz' | with_reducible exact HS1.out _ (hbz'.alloc hbz'.size _) | exact HS0.out)
          (first | (go_at_call 100; refine (HSZ.out _).mono ?_; rintro e wz ⟨rfl, hbz⟩; (have hbz' : Below w5.drew.heap.size w5.drew wz := by first | exact hbz | exact ((Below.refl _ _).alloc (Nat.le_refl _) _).trans (hbz.mono (by simp))); (try (have bz := (Blk.new0 w5.drew [.int .i64 0, .slice none 0 0, .slice none 0 0, .slice none 0 0] 66).keep hbz))) | (go_at_call 108; refine (HRD.out _ (by first | exact hbz' | exact hbz'.alloc hbz'.size _)).mono ?_; rintro e w6 ⟨z0, zn0, zc0, z1, zn1, zc1, z2, zn2, zc2, ag, ng, cg, rfl, hk6, hg6, hb6⟩; (have hb6' : Below w5.drew.heap.size w5.drew w6 := by first | exact hbz'.trans (hb6.mono hbz'.size) | exact (hbz'.alloc hbz'.size _).trans (hb6.mono (by have := hbz'.size; simp at *; omega))); (first | (have b10 := bz.keep hb6; have d0 := b10.cell 0; have d1 := b10.cell 1; have d2 := b10.cell 2; have d3 := b10.cell 3; have h0 := b10.frozen 0; have h1 := b10.frozen 1; have h2 := b10.frozen 2; have h3 := b10.frozen 3; simp only [List.getElem?_cons_zero, List.getElem?_cons_succ, World.size_drew] at d0 d1 d2 d3 h0 h1 h2 h3; have l10 := b10.lt; (try simp only [World.size_drew] at l10)) | (have b10 := (Blk.new0 wz [.int .i64 0, .slice none 0 0, .slice none 0 0, .slice none 0 0] 66).keep hb6; have d0 := b10.cell 0; have d1 := b10.cell 1; have d2 := b10.cell 2; have d3 := b10.cell 3; have h0 := b10.frozen 0; have h1 := b10.frozen 1; have h2 := b10.frozen 2; have h3 := b10.frozen 3; simp only [List.getElem?_cons_zero, List.getElem?_cons_succ, World.size_drew] at d0 d1 d2 d3 h0 h1 h2 h3; have l10 := b10.lt; (try simp only [World.size_drew] at l10)) | skip)))
        · have B56 : Below w5.heap.size w5 w6 := (Below.refl _ _).drew.trans hb6'
          obtain ⟨W6, hW6⟩ : ∃ W6, W6 = w6.alloc (.cells #[.int .i64 t.c, .slice z0 zn0 zc0, .slice z1 zn1 zc1, .slice z2 zn2 zc2] 66) := ⟨_, rfl⟩
          have B66 : Below w6.heap.size w6 W6 := by rw [hW6]; exact (Below.refl _ _).alloc (Nat.le_refl _) _
          have c10 : Blk W6 w6.heap.size [.int .i64 t.c, .slice z0 zn0 zc0, .slice z1 zn1 zc1, .slice z2 zn2 zc2] 66 := by rw [hW6]; exact Blk.new0 w6 _ _
          have hB6 : Below w5.heap.size w5 W6 := B56.trans (B66.mono B56.size)
          have hBn : w3.heap.size < w6.heap.size := by have := B56.size; omega
          have k6 := hk6.keep B66
          have g6 := hg6.keep B66
          rw [← hW6]
          clear hW6 B66 B56 hk6 hg6 hb6 hb6' hbz hbz'
          generalize w6.heap.size = B10 at *
          have b7w := HB75.out.keep hB6
          have hne : w3.heap.size ≠ B10 := by omega
          have hne' : B10 ≠ w3.heap.size := hne.symm
          have r0 := b7w.cell 0
          have r1 := b7w.cell 1
          have r2 := b7w.cell 2
          have r3 := b7w.cell 3
          have f0 := b7w.frozen 0
          have f1 := b7w.frozen 1
          have f2 := b7w.frozen 2
          have f3 := b7w.frozen 3
          simp only [List.getElem?_cons_zero, List.getElem?_cons_succ] at r0 r1 r2 r3
          have l7 := b7w.lt
          have d0 := c10.cell 0
          have d1 := c10.cell 1
          have d2 := c10.cell 2
          have d3 := c10.cell 3
          have h0 := c10.frozen 0
          have h1 := c10.frozen 1
          have h2 := c10.frozen 2
          have h3 := c10.frozen 3
          simp only [List.getElem?_cons_zero, List.getElem?_cons_succ] at d0 d1 d2 d3
          have l10 := c10.lt
          have B56 := hB6
          have t7 := (HE5.out.keep B56).typ b7w (by decide) (by decide)
          have E6 := HE5.out.keep B56
          obtain ⟨W7, hW7⟩ : ∃ W7, W7 = (((W6.setCell ⟨w3.heap.size, 0, none⟩ (.int .i64 t.c)).setCell ⟨w3.heap.size, 1, none⟩ (.slice z0 zn0 zc0)).setCell ⟨w3.heap.size, 2, none⟩ (.slice z1 zn1 zc1)).setCell ⟨w3.heap.size, 3, none⟩ (.slice z2 zn2 zc2) := ⟨_, rfl⟩
          have F7 : Fr (fun k => k = w3.heap.size) W6 W7 := by rw [hW7]; exact ((((Fr.refl (fun k => k = w3.heap.size) W6).setEq rfl _).setEq rfl _).setEq rfl _).setEq rfl _
          have b7 : Blk W7 w3.heap.size [.int .i64 t.c, .slice z0 zn0 zc0, .slice z1 zn1 zc1, .slice z2 zn2 zc2] 66 := by rw [hW7]; exact (((b7w.set 0 _).set 1 _).set 2 _).set 3 _
          have k7 : TL W7 (.slice z0 zn0 zc0) (.slice z1 zn1 zc1) (.slice z2 zn2 zc2) t := k6.fr F7 (fun v L hk b hb e => hk.ne b7w (by decide) b hb e)
          have g7 : KL W7 (.slice ag ng cg) g := g6.fr2 F7 (fun b hb e => g6.ne b7w (by decide) b hb e)
          have E7 : Tqa W7 px O s p := E6.frame F7 (fun k hk e => t7 (by rw [← e]; exact hk))
          have ch7 : Chg (fun _ => False) O w W7 := by
            have q := HCH5.out.below B56
            exact ⟨q.fr.trans F7 (fun i e => .inr (by show w.heap.size ≤ i; rw [e]; exact hwB)), q.own⟩
          have Dr := (Below.refl W7.heap.size W7).drew
          have hso : TS.ok (doT s x).1 := doT_ok HS.out HXO.out
          have HDO := Go.Lib.hid (qdo_any px s x W7.drew HXO.out HS.out (by omega) (E7.keep Dr))
          rw [HD.out] at HDO hso
          simp only at HDO hso
          have HSO := Go.Lib.hid hso
          have HS22 := Go.Lib.hid (fun (W8 W' : World) (O' : Nat → Prop) (b : Blk W8 w3.heap.size [.int .i64 t.c, .slice z0 zn0 zc0, .slice z1 zn1 zc1, .slice z2 zn2 zc2] 66) (ch : Chg (fun _ => False) O' w W8) (hb : Below W8.heap.size W8 W') => (have q := HXC.out O' W8 W' ch hb; have b' := b.keep hb; (⟨b'.cell 0, b'.cell 1, b'.cell 2, b'.cell 3, q.1, q.2.1, q.2.2⟩ : W'.cell? ⟨w3.heap.size, 0, none⟩ = some (.int .i64 t.c) ∧ W'.cell? ⟨w3.heap.size, 1, none⟩ = some (.slice z0 zn0 zc0) ∧ W'.cell? ⟨w3.heap.size, 2, none⟩ = some (.slice z1 zn1 zc1) ∧ W'.cell? ⟨w3.heap.size, 3, none⟩ = some (.slice z2 zn2 zc2) ∧ W'.cell? (ad.add (j * 3)) = some (.int .u8 x.kind) ∧ W'.cell? ⟨(ad.add (j * 3)).block, (ad.add (j * 3)).off + 1, none⟩ = some (.int .u64 x.key) ∧ W'.cell? ⟨(ad.add (j * 3)).block, (ad.add (j * 3)).off + 2, none⟩ = some (.int .u16 x.n))))
          have HS220 := Go.Lib.hid (HS22.out _ _ _ b7 ch7 Dr)
          have Hk7 := Go.Lib.hid (k7.keep Dr)
          have Hg7 := Go.Lib.hid (g7.keep Dr)
          have HE7 := Go.Lib.hid (E7.keep Dr)
          have HCH7 := Go.Lib.hid (ch7.below Dr)
          have HT7 := Go.Lib.hid ((E7.keep Dr).typ (b7.keep Dr) (by decide) (by decide))
          have HBd := Go.Lib.hid (b7.keep Dr)
          have l77 := b7.lt
          have hss := F7.size
          have hsz := B56.size
          have gab7 : (ad.add (j * 3)).block < W7.heap.size := by omega
          have HW7 := Go.Lib.hid hW7
          clear hW7 B56 E6 t7 F7 b7 k7 g7 E7 ch7 Dr hso
          clear hB6 b7w k6 g6 c10
          go_wp2_with fail
          rw [← HW7.out]
          clear r0 r1 r2 r3 f0 f1 f2 f3 d0 d1 d2 d3 h0 h1 h2 h3 l7 l10
          go_region_held3 (fun W' => W'.cell? ⟨w3.heap.size, 0, none⟩ = some (.int .i64 t.c) ∧ W'.cell? ⟨w3.heap.size, 1, none⟩ = some (.slice z0 zn0 zc0) ∧ W'.cell? ⟨w3.heap.size, 2, none⟩ = some (.slice z1 zn1 zc1) ∧ W'.cell? ⟨w3.heap.size, 3, none⟩ = some (.slice z2 zn2 zc2) ∧ W'.cell? (ad.add (j * 3)) = some (.int .u8 x.kind) ∧ W'.cell? ⟨(ad.add (j * 3)).block, (ad.add (j * 3)).off + 1, none⟩ = some (.int .u64 x.key) ∧ W'.cell? ⟨(ad.add (j * 3)).block, (ad.add (j * 3)).off + 2, none⟩ = some (.int .u16 x.n))
            (first | with_reducible exact HS22.out _ _ _ b78 ch8 hb13 | with_reducible exact HS22.out _ _ _ b78 ch8 hb12 | with_reducible exact HS22.out _ _ _ b78 ch8 hb11 | with_reducible exact HS22.out _ _ _ b78 ch8 hb10 | with_reducible exact HS22.out _ _ _ b78 ch8 hb9 | with_reducible exact HS22.out _ _ _ b78 ch8 (Below.refl _ _) | exact HS220.out)
            (first | (go_at_call 44; refine HDO.out.mono ?_; rintro e w8 ⟨vo, O9, p9, rfl, hko, hE8, hC8, hp8⟩; (have b78 := hC8.blk HT7.out HBd.out; have ch8 := HCH7.out.trans hC8; have kg8 := Hg7.out.fr2 hC8.fr (HE7.out.kl Hg7.out); have k78 := Hk7.out.fr hC8.fr (fun v L hk => HE7.out.kl hk))) | (go_at_call 24; have z2 := hkl; refine (same_rfq _ _ _ _ (hkk.keep hb11') z2).mono ?_; rintro e w12 ⟨rfl, hb12'⟩; have hb12 := hb11.trans (hb12'.mono hb11.size)) | (go_at_call 24; refine (same_rfq _ _ _ _ hko kg8).mono ?_; rintro e w9 ⟨rfl, hb9⟩) | (go_at_call 49; refine (tkeys_any px _ (hE8.keep hb9)).mono ?_; rintro e w10 ⟨vk, rfl, hkk, hb10'⟩; have hb10 := hb9.trans (hb10'.mono hb9.size)) | (go_at_call 109; refine (twl_keys t _ _ _ _ HSO.out (k78.keep hb10)).mono ?_; rintro e w11 ⟨vl, rfl, hkl, hb11'⟩; have hb11 := hb10.trans (hb11'.mono hb10.size)) | (go_at_call 51; refine (tghosts_any px _ (hE8.keep hb12)).mono ?_; rintro e w13' ⟨rfl, rfl⟩) | (go_at_call 110; refine (twl_ghosts t _ _ _ _ (k78.keep hb12)).mono ?_; rintro e w13 ⟨rfl, hb13'⟩; have hb13 := hb12.trans (hb13'.mono hb12.size)))
          have HE9 := Go.Lib.hid (hE8.keep hb13)
          have Hb9 := Go.Lib.hid (b78.keep hb13)
          have Hk9 := Go.Lib.hid (k78.keep hb13)
          have HC9 := Go.Lib.hid (ch8.below hb13)
          have hpp : p9 ≤ 28 := by have q1 := hp8; have q2 := HS.out.hi; omega
          clear hb9 hb10 hb11 hb12 hb13 hb10' hb11' hb12' hb13' hko hE8 hC8 hp8 b78 ch8 kg8 k78 hkk hkl z2
          go_wp2_with fail
          go_roundw
          case rel => exact ⟨j + 1, t, O9, p9, _, _, _, by omega, by go_num, HSO.out, hpp, HE9.out, Hb9.out, Hk9.out, HC9.out⟩
          case measure => simp [intOf]; omega
        · have B56 : Below w5.heap.size w5 w6 := (Below.refl _ _).drew.trans hb6'
          obtain ⟨W6, hW6⟩ : ∃ W6, W6 = (((w6.setCell ⟨wz.heap.size, 0, none⟩ (.int .i64 t.c)).setCell ⟨wz.heap.size, 1, none⟩ (.slice z0 zn0 zc0)).setCell ⟨wz.heap.size, 2, none⟩ (.slice z1 zn1 zc1)).setCell ⟨wz.heap.size, 3, none⟩ (.slice z2 zn2 zc2) := ⟨_, rfl⟩
          have F6 : Fr (fun k => k = wz.heap.size) w6 W6 := by rw [hW6]; exact ((((Fr.refl (fun k => k = wz.heap.size) w6).setEq rfl _).setEq rfl _).setEq rfl _).setEq rfl _
          have hB6 : Below w5.heap.size w5 W6 := by rw [hW6]; exact (below_set (below_set (below_set (below_set B56 (hbz'.size) _) (hbz'.size) _) (hbz'.size) _) (hbz'.size) _)
          have c10 : Blk W6 (wz.heap.size) [.int .i64 t.c, .slice z0 zn0 zc0, .slice z1 zn1 zc1, .slice z2 zn2 zc2] 66 := by rw [hW6]; exact (((b10.set 0 _).set 1 _).set 2 _).set 3 _
          have k6 := hk6.fr F6 (fun v L hk b hb e => hk.ne b10 (by decide) b hb e)
          have g6 := hg6.fr2 F6 (fun b hb e => hg6.ne b10 (by decide) b hb e)
          have hBn : w3.heap.size < wz.heap.size := by have q : w5.heap.size ≤ wz.heap.size := hbz'.size; omega
          rw [← hW6]
          clear hW6 F6 B56 hk6 hg6 hb6 hb6' hbz hbz' b10 d0 d1 d2 d3 h0 h1 h2 h3 l10
          generalize hBB : wz.heap.size = B10 at c10 hBn ⊢
          clear hBB
          have b7w := HB75.out.keep hB6
          have hne : w3.heap.size ≠ B10 := by omega
          have hne' : B10 ≠ w3.heap.size := hne.symm
          have r0 := b7w.cell 0
          have r1 := b7w.cell 1
          have r2 := b7w.cell 2
          have r3 := b7w.cell 3
          have f0 := b7w.frozen 0
          have f1 := b7w.frozen 1
          have f2 := b7w.frozen 2
          have f3 := b7w.frozen 3
          simp only [List.getElem?_cons_zero, List.getElem?_cons_succ] at r0 r1 r2 r3
          have l7 := b7w.lt
          have d0 := c10.cell 0
          have d1 := c10.cell 1
          have d2 := c10.cell 2
          have d3 := c10.cell 3
          have h0 := c10.frozen 0
          have h1 := c10.frozen 1
          have h2 := c10.frozen 2
          have h3 := c10.frozen 3
          simp only [List.getElem?_cons_zero, List.getElem?_cons_succ] at d0 d1 d2 d3
          have l10 := c10.lt
          have B56 := hB6
          have t7 := (HE5.out.keep B56).typ b7w (by decide) (by decide)
          have E6 := HE5.out.keep B56
          obtain ⟨W7, hW7⟩ : ∃ W7, W7 = (((W6.setCell ⟨w3.heap.size, 0, none⟩ (.int .i64 t.c)).setCell ⟨w3.heap.size, 1, none⟩ (.slice z0 zn0 zc0)).setCell ⟨w3.heap.size, 2, none⟩ (.slice z1 zn1 zc1)).setCell ⟨w3.heap.size, 3, none⟩ (.slice z2 zn2 zc2) := ⟨_, rfl⟩
          have F7 : Fr (fun k => k = w3.heap.size) W6 W7 := by rw [hW7]; exact ((((Fr.refl (fun k => k = w3.heap.size) W6).setEq rfl _).setEq rfl _).setEq rfl _).setEq rfl _
          have b7 : Blk W7 w3.heap.size [.int .i64 t.c, .slice z0 zn0 zc0, .slice z1 zn1 zc1, .slice z2 zn2 zc2] 66 := by rw [hW7]; exact (((b7w.set 0 _).set 1 _).set 2 _).set 3 _
          have k7 : TL W7 (.slice z0 zn0 zc0) (.slice z1 zn1 zc1) (.slice z2 zn2 zc2) t := k6.fr F7 (fun v L hk b hb e => hk.ne b7w (by decide) b hb e)
          have g7 : KL W7 (.slice ag ng cg) g := g6.fr2 F7 (fun b hb e => g6.ne b7w (by decide) b hb e)
          have E7 : Tqa W7 px O s p := E6.frame F7 (fun k hk e => t7 (by rw [← e]; exact hk))
          have ch7 : Chg (fun _ => False) O w W7 := by
            have q := HCH5.out.below B56
            exact ⟨q.fr.trans F7 (fun i e => .inr (by show w.heap.size ≤ i; rw [e]; exact hwB)), q.own⟩
          have Dr := (Below.refl W7.heap.size W7).drew
          have hso : TS.ok (doT s x).1 := doT_ok HS.out HXO.out
          have HDO := Go.Lib.hid (qdo_any px s x W7.drew HXO.out HS.out (by omega) (E7.keep Dr))
          rw [HD.out] at HDO hso
          simp only at HDO hso
          have HSO := Go.Lib.hid hso
          have HS22 := Go.Lib.hid (fun (W8 W' : World) (O' : Nat → Prop) (b : Blk W8 w3.heap.size [.int .i64 t.c, .slice z0 zn0 zc0, .slice z1 zn1 zc1, .slice z2 zn2 zc2] 66) (ch : Chg (fun _ => False) O' w W8) (hb : Below W8.heap.size W8 W') => (have q := HXC.out O' W8 W' ch hb; have b' := b.keep hb; (⟨b'.cell 0, b'.cell 1, b'.cell 2, b'.cell 3, q.1, q.2.1, q.2.2⟩ : W'.cell? ⟨w3.heap.size, 0, none⟩ = some (.int .i64 t.c) ∧ W'.cell? ⟨w3.heap.size, 1, none⟩ = some (.slice z0 zn0 zc0) ∧ W'.cell? ⟨w3.heap.size, 2, none⟩ = some (.slice z1 zn1 zc1) ∧ W'.cell? ⟨w3.heap.size, 3, none⟩ = some (.slice z2 zn2 zc2) ∧ W'.cell? (ad.add (j * 3)) = some (.int .u8 x.kind) ∧ W'.cell? ⟨(ad.add (j * 3)).block, (ad.add (j * 3)).off + 1, none⟩ = some (.int .u64 x.key) ∧ W'.cell? ⟨(ad.add (j * 3)).block, (ad.add (j * 3)).off + 2, none⟩ = some (.int .u16 x.n))))
          have HS220 := Go.Lib.hid (HS22.out _ _ _ b7 ch7 Dr)
          have Hk7 := Go.Lib.hid (k7.keep Dr)
          have Hg7 := Go.Lib.hid (g7.keep Dr)
          have HE7 := Go.Lib.hid (E7.keep Dr)
          have HCH7 := Go.Lib.hid (ch7.below Dr)
          have HT7 := Go.Lib.hid ((E7.keep Dr).typ (b7.keep Dr) (by decide) (by decide))
          have HBd := Go.Lib.hid (b7.keep Dr)
          have l77 := b7.lt
          have hss := F7.size
          have hsz := B56.size
          have gab7 : (ad.add (j * 3)).block < W7.heap.size := by omega
          have HW7 := Go.Lib.hid hW7
          clear hW7 B56 E6 t7 F7 b7 k7 g7 E7 ch7 Dr hso
          clear hB6 b7w k6 g6 c10
          go_wp2_with fail
          rw [← HW7.out]
          clear r0 r1 r2 r3 f0 f1 f2 f3 d0 d1 d2 d3 h0 h1 h2 h3 l7 l10
          go_region_held3 (fun W' => W'.cell? ⟨w3.heap.size, 0, none⟩ = some (.int .i64 t.c) ∧ W'.cell? ⟨w3.heap.size, 1, none⟩ = some (.slice z0 zn0 zc0) ∧ W'.cell? ⟨w3.heap.size, 2, none⟩ = some (.slice z1 zn1 zc1) ∧ W'.cell? ⟨w3.heap.size, 3, none⟩ = some (.slice z2 zn2 zc2) ∧ W'.cell? (ad.add (j * 3)) = some (.int .u8 x.kind) ∧ W'.cell? ⟨(ad.add (j * 3)).block, (ad.add (j * 3)).off + 1, none⟩ = some (.int .u64 x.key) ∧ W'.cell? ⟨(ad.add (j * 3)).block, (ad.add (j * 3)).off + 2, none⟩ = some (.int .u16 x.n))
            (first | with_reducible exact HS22.out _ _ _ b78 ch8 hb13 | with_reducible exact HS22.out _ _ _ b78 ch8 hb12 | with_reducible exact HS22.out _ _ _ b78 ch8 hb11 | with_reducible exact HS22.out _ _ _ b78 ch8 hb10 | with_reducible exact HS22.out _ _ _ b78 ch8 hb9 | with_reducible exact HS22.out _ _ _ b78 ch8 (Below.refl _ _) | exact HS220.out)
            (first | (go_at_call 44; refine HDO.out.mono ?_; rintro e w8 ⟨vo, O9, p9, rfl, hko, hE8, hC8, hp8⟩; (have b78 := hC8.blk HT7.out HBd.out; have ch8 := HCH7.out.trans hC8; have kg8 := Hg7.out.fr2 hC8.fr (HE7.out.kl Hg7.out); have k78 := Hk7.out.fr hC8.fr (fun v L hk => HE7.out.kl hk))) | (go_at_call 24; have z2 := hkl; refine (same_rfq _ _ _ _ (hkk.keep hb11') z2).mono ?_; rintro e w12 ⟨rfl, hb12'⟩; have hb12 := hb11.trans (hb12'.mono hb11.size)) | (go_at_call 24; refine (same_rfq _ _ _ _ hko kg8).mono ?_; rintro e w9 ⟨rfl, hb9⟩) | (go_at_call 49; refine (tkeys_any px _ (hE8.keep hb9)).mono ?_; rintro e w10 ⟨vk, rfl, hkk, hb10'⟩; have hb10 := hb9.trans (hb10'.mono hb9.size)) | (go_at_call 109; refine (twl_keys t _ _ _ _ HSO.out (k78.keep hb10)).mono ?_; rintro e w11 ⟨vl, rfl, hkl, hb11'⟩; have hb11 := hb10.trans (hb11'.mono hb10.size)) | (go_at_call 51; refine (tghosts_any px _ (hE8.keep hb12)).mono ?_; rintro e w13' ⟨rfl, rfl⟩) | (go_at_call 110; refine (twl_ghosts t _ _ _ _ (k78.keep hb12)).mono ?_; rintro e w13 ⟨rfl, hb13'⟩; have hb13 := hb12.trans (hb13'.mono hb12.size)))
          have HE9 := Go.Lib.hid (hE8.keep hb13)
          have Hb9 := Go.Lib.hid (b78.keep hb13)
          have Hk9 := Go.Lib.hid (k78.keep hb13)
          have HC9 := Go.Lib.hid (ch8.below hb13)
          have hpp : p9 ≤ 28 := by have q1 := hp8; have q2 := HS.out.hi; omega
          clear hb9 hb10 hb11 hb12 hb13 hb10' hb11' hb12' hb13' hko hE8 hC8 hp8 b78 ch8 kg8 k78 hkk hkl z2
          go_wp2_with fail
          go_roundw
          case rel => exact ⟨j + 1, t, O9, p9, _, _, _, by omega, by go_num, HSO.out, hpp, HE9.out, Hb9.out, Hk9.out, HC9.out⟩
          case measure => simp [intOf]; omega
        · have B56 : Below w5.heap.size w5 w6 := (Below.refl _ _).drew.trans hb6'
          obtain ⟨W6, hW6⟩ : ∃ W6, W6 = (((w6.setCell ⟨w5.heap.size, 0, none⟩ (.int .i64 t.c)).setCell ⟨w5.heap.size, 1, none⟩ (.slice z0 zn0 zc0)).setCell ⟨w5.heap.size, 2, none⟩ (.slice z1 zn1 zc1)).setCell ⟨w5.heap.size, 3, none⟩ (.slice z2 zn2 zc2) := ⟨_, rfl⟩
          have F6 : Fr (fun k => k = w5.heap.size) w6 W6 := by rw [hW6]; exact ((((Fr.refl (fun k => k = w5.heap.size) w6).setEq rfl _).setEq rfl _).setEq rfl _).setEq rfl _
          have hB6 : Below w5.heap.size w5 W6 := by rw [hW6]; exact (below_set (below_set (below_set (below_set B56 (Nat.le_refl _) _) (Nat.le_refl _) _) (Nat.le_refl _) _) (Nat.le_refl _) _)
          have c10 : Blk W6 (w5.heap.size) [.int .i64 t.c, .slice z0 zn0 zc0, .slice z1 zn1 zc1, .slice z2 zn2 zc2] 66 := by rw [hW6]; exact (((b10.set 0 _).set 1 _).set 2 _).set 3 _
          have k6 := hk6.fr F6 (fun v L hk b hb e => hk.ne b10 (by decide) b hb e)
          have g6 := hg6.fr2 F6 (fun b hb e => hg6.ne b10 (by decide) b hb e)
          have hBn : w3.heap.size < w5.heap.size := by exact l75
          rw [← hW6]
          clear hW6 F6 B56 hk6 hg6 hb6 hb6' hbz hbz' bz b10 d0 d1 d2 d3 h0 h1 h2 h3 l10
          generalize hBB : w5.heap.size = B10 at c10 hBn ⊢
          clear hBB
          have b7w := HB75.out.keep hB6
          have hne : w3.heap.size ≠ B10 := by omega
          have hne' : B10 ≠ w3.heap.size := hne.symm
          have r0 := b7w.cell 0
          have r1 := b7w.cell 1
          have r2 := b7w.cell 2
          have r3 := b7w.cell 3
          have f0 := b7w.frozen 0
          have f1 := b7w.frozen 1
          have f2 := b7w.frozen 2
          have f3 := b7w.frozen 3
          simp only [List.getElem?_cons_zero, List.getElem?_cons_succ] at r0 r1 r2 r3
          have l7 := b7w.lt
          have d0 := c10.cell 0
          have d1 := c10.cell 1
          have d2 := c10.cell 2
          have d3 := c10.cell 3
          have h0 := c10.frozen 0
          have h1 := c10.frozen 1
          have h2 := c10.frozen 2
          have h3 := c10.frozen 3
          simp only [List.getElem?_cons_zero, List.getElem?_cons_succ] at d0 d1 d2 d3
          have l10 := c10.lt
          have B56 := hB6
          have t7 := (HE5.out.keep B56).typ b7w (by decide) (by decide)
          have E6 := HE5.out.keep B56
          obtain ⟨W7, hW7⟩ : ∃ W7, W7 = (((W6.setCell ⟨w3.heap.size, 0, none⟩ (.int .i64 t.c)).setCell ⟨w3.heap.size, 1, none⟩ (.slice z0 zn0 zc0)).setCell ⟨w3.heap.size, 2, none⟩ (.slice z1 zn1 zc1)).setCell ⟨w3.heap.size, 3, none⟩ (.slice z2 zn2 zc2) := ⟨_, rfl⟩
          have F7 : Fr (fun k => k = w3.heap.size) W6 W7 := by rw [hW7]; exact ((((Fr.refl (fun k => k = w3.heap.size) W6).setEq rfl _).setEq rfl _).setEq rfl _).setEq rfl _
          have b7 : Blk W7 w3.heap.size [.int .i64 t.c, .slice z0 zn0 zc0, .slice z1 zn1 zc1, .slice z2 zn2 zc2] 66 := by rw [hW7]; exact (((b7w.set 0 _).set 1 _).set 2 _).set 3 _
          have k7 : TL W7 (.slice z0 zn0 zc0) (.slice z1 zn1 zc1) (.slice z2 zn2 zc2) t := k6.fr F7 (fun v L hk b hb e => hk.ne b7w (by decide) b hb e)
          have g7 : KL W7 (.slice ag ng cg) g := g6.fr2 F7 (fun b hb e => g6.ne b7w (by decide) b hb e)
          have E7 : Tqa W7 px O s p := E6.frame F7 (fun k hk e => t7 (by rw [← e]; exact hk))
          have ch7 : Chg (fun _ => False) O w W7 := by
            have q := HCH5.out.below B56
            exact ⟨q.fr.trans F7 (fun i e => .inr (by show w.heap.size ≤ i; rw [e]; exact hwB)), q.own⟩
          have Dr := (Below.refl W7.heap.size W7).drew
          have hso : TS.ok (doT s x).1 := doT_ok HS.out HXO.out
          have HDO := Go.Lib.hid (qdo_any px s x W7.drew HXO.out HS.out (by omega) (E7.keep Dr))
          rw [HD.out] at HDO hso
          simp only at HDO hso
          have HSO := Go.Lib.hid hso
          have HS22 := Go.Lib.hid (fun (W8 W' : World) (O' : Nat → Prop) (b : Blk W8 w3.heap.size [.int .i64 t.c, .slice z0 zn0 zc0, .slice z1 zn1 zc1, .slice z2 zn2 zc2] 66) (ch : Chg (fun _ => False) O' w W8) (hb : Below W8.heap.size W8 W') => (have q := HXC.out O' W8 W' ch hb; have b' := b.keep hb; (⟨b'.cell 0, b'.cell 1, b'.cell 2, b'.cell 3, q.1, q.2.1, q.2.2⟩ : W'.cell? ⟨w3.heap.size, 0, none⟩ = some (.int .i64 t.c) ∧ W'.cell? ⟨w3.heap.size, 1, none⟩ = some (.slice z0 zn0 zc0) ∧ W'.cell? ⟨w3.heap.size, 2, none⟩ = some (.slice z1 zn1 zc1) ∧ W'.cell? ⟨w3.heap.size, 3, none⟩ = some (.slice z2 zn2 zc2) ∧ W'.cell? (ad.add (j * 3)) = some (.int .u8 x.kind) ∧ W'.cell? ⟨(ad.add (j * 3)).block, (ad.add (j * 3)).off + 1, none⟩ = some (.int .u64 x.key) ∧ W'.cell? ⟨(ad.add (j * 3)).block, (ad.add (j * 3)).off + 2, none⟩ = some (.int .u16 x.n))))
          have HS220 := Go.Lib.hid (HS22.out _ _ _ b7 ch7 Dr)
          have Hk7 := Go.Lib.hid (k7.keep Dr)
          have Hg7 := Go.Lib.hid (g7.keep Dr)
          have HE7 := Go.Lib.hid (E7.keep Dr)
          have HCH7 := Go.Lib.hid (ch7.below Dr)
          have HT7 := Go.Lib.hid ((E7.keep Dr).typ (b7.keep Dr) (by decide) (by decide))
          have HBd := Go.Lib.hid (b7.keep Dr)
          have l77 := b7.lt
          have hss := F7.size
          have hsz := B56.size
          have gab7 : (ad.add (j * 3)).block < W7.heap.size := by omega
          have HW7 := Go.Lib.hid hW7
          clear hW7 B56 E6 t7 F7 b7 k7 g7 E7 ch7 Dr hso
          clear hB6 b7w k6 g6 c10
          go_wp2_with fail
          rw [← HW7.out]
          clear r0 r1 r2 r3 f0 f1 f2 f3 d0 d1 d2 d3 h0 h1 h2 h3 l7 l10
          go_region_held3 (fun W' => W'.cell? ⟨w3.heap.size, 0, none⟩ = some (.int .i64 t.c) ∧ W'.cell? ⟨w3.heap.size, 1, none⟩ = some (.slice z0 zn0 zc0) ∧ W'.cell? ⟨w3.heap.size, 2, none⟩ = some (.slice z1 zn1 zc1) ∧ W'.cell? ⟨w3.heap.size, 3, none⟩ = some (.slice z2 zn2 zc2) ∧ W'.cell? (ad.add (j * 3)) = some (.int .u8 x.kind) ∧ W'.cell? ⟨(ad.add (j * 3)).block, (ad.add (j * 3)).off + 1, none⟩ = some (.int .u64 x.key) ∧ W'.cell? ⟨(ad.add (j * 3)).block, (ad.add (j * 3)).off + 2, none⟩ = some (.int .u16 x.n))
            (first | with_reducible exact HS22.out _ _ _ b78 ch8 hb13 | with_reducible exact HS22.out _ _ _ b78 ch8 hb12 | with_reducible exact HS22.out _ _ _ b78 ch8 hb11 | with_reducible exact HS22.out _ _ _ b78 ch8 hb10 | with_reducible exact HS22.out _ _ _ b78 ch8 hb9 | with_reducible exact HS22.out _ _ _ b78 ch8 (Below.refl _ _) | exact HS220.out)
            (first | (go_at_call 44; refine HDO.out.mono ?_; rintro e w8 ⟨vo, O9, p9, rfl, hko, hE8, hC8, hp8⟩; (have b78 := hC8.blk HT7.out HBd.out; have ch8 := HCH7.out.trans hC8; have kg8 := Hg7.out.fr2 hC8.fr (HE7.out.kl Hg7.out); have k78 := Hk7.out.fr hC8.fr (fun v L hk => HE7.out.kl hk))) | (go_at_call 24; have z2 := hkl; refine (same_rfq _ _ _ _ (hkk.keep hb11') z2).mono ?_; rintro e w12 ⟨rfl, hb12'⟩; have hb12 := hb11.trans (hb12'.mono hb11.size)) | (go_at_call 24; refine (same_rfq _ _ _ _ hko kg8).mono ?_; rintro e w9 ⟨rfl, hb9⟩) | (go_at_call 49; refine (tkeys_any px _ (hE8.keep hb9)).mono ?_; rintro e w10 ⟨vk, rfl, hkk, hb10'⟩; have hb10 := hb9.trans (hb10'.mono hb9.size)) | (go_at_call 109; refine (twl_keys t _ _ _ _ HSO.out (k78.keep hb10)).mono ?_; rintro e w11 ⟨vl, rfl, hkl, hb11'⟩; have hb11 := hb10.trans (hb11'.mono hb10.size)) | (go_at_call 51; refine (tghosts_any px _ (hE8.keep hb12)).mono ?_; rintro e w13' ⟨rfl, rfl⟩) | (go_at_call 110; refine (twl_ghosts t _ _ _ _ (k78.keep hb12)).mono ?_; rintro e w13 ⟨rfl, hb13'⟩; have hb13 := hb12.trans (hb13'.mono hb12.size)))
          have HE9 := Go.Lib.hid (hE8.keep hb13)
          have Hb9 := Go.Lib.hid (b78.keep hb13)
          have Hk9 := Go.Lib.hid (k78.keep hb13)
          have HC9 := Go.Lib.hid (ch8.below hb13)
          have hpp : p9 ≤ 28 := by have q1 := hp8; have q2 := HS.out.hi; omega
          clear hb9 hb10 hb11 hb12 hb13 hb10' hb11' hb12' hb13' hko hE8 hC8 hp8 b78 ch8 kg8 k78 hkk hkl z2
          go_wp2_with fail
          go_roundw
          case rel => exact ⟨j + 1, t, O9, p9, _, _, _, by omega, by go_num, HSO.out, hpp, HE9.out, Hb9.out, Hk9.out, HC9.out⟩
          case measure => simp [intOf]; omega
      · have e : j = A.length := by omega
        subst e
        have HF := Go.Lib.hid hch.fr.below
        clear hs hE hb7 hk7 hch
        go_wp2_with fail
        go_ret
        exact ⟨rfl, HF.out⟩
  · have hlb : (60 : Int) < A.length := by omega
    go_enter Try.func18, Try.ntmps18
    go_wp2_with fail
    refine (qawake_any _).mono ?_
    rintro e w1 ⟨rfl, hb1⟩
    have HB1 := Go.Lib.hid hb1
    clear hb1
    go_wp2_with fail
    go_ret
    exact ⟨rfl, HB1.out⟩
end Go.Proofs.Ytlakojncjldpbaa
