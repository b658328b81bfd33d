/- EarcLists: the walk. -/
import Derived.Test.YtlakojncjldpbaaGreatLa8
import Derived.Test.YtlakojncjldpbaaGreatAlaw
import Derived.Test.YtlakojncjldpbaaGreatAawake
import Derived.Test.YtlakojncjldpbaaGreatAca7
import Derived.Deep.RegionWith
namespace Go.Proofs.YtlakojncjldpbaaGreat
open Go.RowKit Hop
set_option linter.unusedVariables false
set_option linter.unusedSimpArgs false
set_option maxRecDepth 100000
structure AQ (w : World) (v0 v1 v2 v3 : Value) (s : AS) : Prop where
  t : KL w v0 s.t
  u : KL w v1 s.u
  b : KL w v2 s.b
  d : KL w v3 s.d
theorem AQ.keep {w w' : World} {v0 v1 v2 v3 : Value} {s : AS} (h : AQ w v0 v1 v2 v3 s) (hb : Below w.heap.size w w') : AQ w' v0 v1 v2 v3 s := ⟨h.t.keep hb, h.u.keep hb, h.b.keep hb, h.d.keep hb⟩
theorem AS.ok.len {s : AS} (h : s.ok) : s.t.length < 10000 ∧ s.u.length < 10000 ∧ s.b.length < 10000 ∧ s.d.length < 10000 := by
  have := h.hi
  have := h.al
  omega
theorem AS.ok.p1k {s : AS} (h : s.ok) : s.p ≤ 1000 := by have := h.hi; have := h.p1; omega
theorem same_rfq (va vb : Value) (A : List Int) (w : World) (ha : KL w va A) (hb : KL w vb A) : Calls Tryz.prog 12 #[va, vb] w fun e w' => e = .returned (.bool true) ∧ Below w.heap.size w w' :=
  (same_any va vb A A w ha hb).mono fun e w' ⟨h1, h2⟩ => ⟨by rw [h1]; simp, h2⟩
theorem arl_has (s : AS) (a0 a1 a2 a3 : Option Addr) (n0 n1 n2 n3 p0 p1 p2 p3 : Nat) (k : Int) (w : World) (h : AQ w (.slice a0 n0 p0) (.slice a1 n1 p1) (.slice a2 n2 p2) (.slice a3 n3 p3) s) :
    Calls Tryz.prog 25 #[arV s.c s.p (.slice a0 n0 p0) (.slice a1 n1 p1) (.slice a2 n2 p2) (.slice a3 n3 p3), .int .u64 k] w fun e w' => e = .returned (.bool (decide (k ∈ s.t ++ s.u))) ∧ Below w.heap.size w w' :=
  arhas_any s.c s.p a0 a1 a2 a3 n0 n1 n2 n3 p0 p1 p2 p3 s.t s.u k w h.t h.u
theorem arl_keys (s : AS) (v0 v1 v2 v3 : Value) (w : World) (hs : s.ok) (h : AQ w v0 v1 v2 v3 s) :
    Calls Tryz.prog 33 #[arV s.c s.p v0 v1 v2 v3] w fun e w' => ∃ v, e = .returned v ∧ KL w' v (s.t ++ s.u) ∧ Below w.heap.size w w' :=
  arkeys_any s.c s.p v0 v1 v2 v3 s.t s.u s.b s.d w hs.len.1 hs.len.2.1 hs.len.2.2.1 hs.len.2.2.2 h.t h.u h.b h.d
theorem arl_ghosts (s : AS) (v0 v1 v2 v3 : Value) (w : World) (hs : s.ok) (h : AQ w v0 v1 v2 v3 s) :
    Calls Tryz.prog 35 #[arV s.c s.p v0 v1 v2 v3] w fun e w' => e = .returned (.int .i64 ((s.b.length + s.d.length : Nat) : Int)) ∧ Below w.heap.size w w' :=
  (arghosts_any s.c s.p v0 v1 v2 v3 s.t s.u s.b s.d w hs.len.1 hs.len.2.1 hs.len.2.2.1 hs.len.2.2.2 h.t h.u h.b h.d).mono fun e w' ⟨h1, h2⟩ => ⟨by rw [h1]; rfl, h2⟩
theorem AQ.fr {w w' : World} {v0 v1 v2 v3 : Value} {s : AS} (h : AQ w v0 v1 v2 v3 s) {own : Nat → Prop} (f : Fr own w w') (hn : ∀ v L, KL w v L → ∀ b, v.ownBlock = some b → ¬ own b) : AQ w' v0 v1 v2 v3 s :=
  ⟨h.t.fr2 f (hn _ _ h.t), h.u.fr2 f (hn _ _ h.u), h.b.fr2 f (hn _ _ h.b), h.d.fr2 f (hn _ _ h.d)⟩
theorem admitA_c (s : AS) (k : Int) : (admitA s k).1.c = s.c := by
  unfold admitA
  split
  · rfl
  · split
    · exact (replA_cp (knownS s k false) false).1
    · split
      · exact (replA_cp (knownS s k true) true).1
      · exact (freshA_cp s).1
theorem shrA_cp : ∀ (f : Nat) (s : AS), (shrA f s).1.c = s.c ∧ (shrA f s).1.p = s.p
  | 0, s => ⟨rfl, rfl⟩
  | f + 1, s => by
    unfold shrA
    split
    · exact ⟨rfl, rfl⟩
    · obtain ⟨h1, h2⟩ := shrA_cp f (evictA s (manyA s)).1
      obtain ⟨h3, h4, _, _⟩ := evictA_cp s (manyA s)
      exact ⟨h1.trans h3, h2.trans h4⟩
theorem resizeA_cp (s : AS) (n : Int) : (resizeA s n).1.c = capF n ∧ (resizeA s n).1.p = min s.p (capF n) := shrA_cp (s.t.length + s.u.length) ⟨capF n, min s.p (capF n), s.t, s.u, s.b, s.d⟩
theorem Aca.apart {w : World} {px : Nat} {O : Nat → Prop} {s : AS} {p : Nat} (h : Aca w px O s p) (k : Int) : ¬ (k ∈ s.b ∧ k ∈ s.d) := by
  obtain ⟨ps, O1, h1, h2, h3, h4⟩ := h
  exact fun e => (nd_four h2.qok).bx k e.1 e.2
theorem AQ.start (w : World) (c : Int) : AQ w (.slice none 0 0) (.slice none 0 0) (.slice none 0 0) (.slice none 0 0) ⟨c, 0, [], [], [], []⟩ := ⟨KL.nil _, KL.nil _, KL.nil _, KL.nil _⟩
theorem arl_touch (s : AS) (v0 v1 v2 v3 : Value) (k : Int) (w : World) (hs : s.ok) (h : AQ w v0 v1 v2 v3 s) :
    Calls Tryz.prog 26 #[arV s.c s.p v0 v1 v2 v3, .int .u64 k] w fun e w' => ∃ a0 n0 p0 a1 n1 p1 a2 n2 p2 a3 n3 p3, e = .returned (arV (touchA s k).c (touchA s k).p (.slice a0 n0 p0) (.slice a1 n1 p1) (.slice a2 n2 p2) (.slice a3 n3 p3)) ∧ AQ w' (.slice a0 n0 p0) (.slice a1 n1 p1) (.slice a2 n2 p2) (.slice a3 n3 p3) (touchA s k) ∧ Below w.heap.size w w' := by
  have q1 := hs.len
  have e1 : (touchA s k).c = s.c ∧ (touchA s k).p = s.p := by unfold touchA; split <;> exact ⟨rfl, rfl⟩
  refine (artouch_any s.c s.p v0 v1 v2 v3 s.t s.u s.b s.d k w q1.1 q1.2.1 q1.2.2.1 q1.2.2.2 h.t h.u h.b h.d).mono ?_
  rintro e w' ⟨u0, u1, u2, u3, rfl, k0, k1, k2, k3, hb⟩
  obtain ⟨a0, p0, rfl⟩ := k0.form
  obtain ⟨a1, p1, rfl⟩ := k1.form
  obtain ⟨a2, p2, rfl⟩ := k2.form
  obtain ⟨a3, p3, rfl⟩ := k3.form
  exact ⟨a0, _, p0, a1, _, p1, a2, _, p2, a3, _, p3, by rw [e1.1, e1.2], ⟨k0, k1, k2, k3⟩, hb⟩
theorem arl_drop (s : AS) (v0 v1 v2 v3 : Value) (k : Int) (w : World) (hs : s.ok) (h : AQ w v0 v1 v2 v3 s) :
    Calls Tryz.prog 28 #[arV s.c s.p v0 v1 v2 v3, .int .u64 k] w fun e w' => ∃ a0 n0 p0 a1 n1 p1 a2 n2 p2 a3 n3 p3, e = .returned (arV (dropA s k).c (dropA s k).p (.slice a0 n0 p0) (.slice a1 n1 p1) (.slice a2 n2 p2) (.slice a3 n3 p3)) ∧ AQ w' (.slice a0 n0 p0) (.slice a1 n1 p1) (.slice a2 n2 p2) (.slice a3 n3 p3) (dropA s k) ∧ Below w.heap.size w w' := by
  have q1 := hs.len
  have e1 : (dropA s k).c = s.c ∧ (dropA s k).p = s.p := ⟨rfl, rfl⟩
  refine (ardrop_any s.c s.p v0 v1 v2 v3 s.t s.u s.b s.d k w q1.1 q1.2.1 q1.2.2.1 q1.2.2.2 h.t h.u h.b h.d).mono ?_
  rintro e w' ⟨u0, u1, u2, u3, rfl, k0, k1, k2, k3, hb⟩
  obtain ⟨a0, p0, rfl⟩ := k0.form
  obtain ⟨a1, p1, rfl⟩ := k1.form
  obtain ⟨a2, p2, rfl⟩ := k2.form
  obtain ⟨a3, p3, rfl⟩ := k3.form
  exact ⟨a0, _, p0, a1, _, p1, a2, _, p2, a3, _, p3, by rw [e1.1, e1.2], ⟨k0, k1, k2, k3⟩, hb⟩
theorem arl_admit (s : AS) (v0 v1 v2 v3 : Value) (k : Int) (w : World) (hs : s.ok) (hn : ¬ (k ∈ s.b ∧ k ∈ s.d)) (h : AQ w v0 v1 v2 v3 s) :
    Calls Tryz.prog 27 #[arV s.c s.p v0 v1 v2 v3, .int .u64 k] w fun e w' => ∃ a0 n0 p0 a1 n1 p1 a2 n2 p2 a3 n3 p3 ag ng pg, e = .returned (.tuple #[arV (admitA s k).1.c (admitA s k).1.p (.slice a0 n0 p0) (.slice a1 n1 p1) (.slice a2 n2 p2) (.slice a3 n3 p3), .slice ag ng pg]) ∧ AQ w' (.slice a0 n0 p0) (.slice a1 n1 p1) (.slice a2 n2 p2) (.slice a3 n3 p3) (admitA s k).1 ∧ KL w' (.slice ag ng pg) (admitA s k).2 ∧ Below w.heap.size w w' := by
  have q1 := hs.len
  have e1 : (admitA s k).1.c = s.c := admitA_c s k
  refine (aradmit_any s.c s.p v0 v1 v2 v3 s.t s.u s.b s.d k w hs.lo (by have := hs.hi; omega) hs.p0 hs.p1k hn q1.1 q1.2.1 q1.2.2.1 q1.2.2.2 h.t h.u h.b h.d).mono ?_
  rintro e w' ⟨u0, u1, u2, u3, vo, rfl, k0, k1, k2, k3, kg, hb⟩
  obtain ⟨a0, p0, rfl⟩ := k0.form
  obtain ⟨a1, p1, rfl⟩ := k1.form
  obtain ⟨a2, p2, rfl⟩ := k2.form
  obtain ⟨a3, p3, rfl⟩ := k3.form
  obtain ⟨ag, pg, rfl⟩ := kg.form
  exact ⟨a0, _, p0, a1, _, p1, a2, _, p2, a3, _, p3, ag, _, pg, by rw [e1], ⟨k0, k1, k2, k3⟩, kg, hb⟩
theorem arl_resize (s : AS) (v0 v1 v2 v3 : Value) (n : Int) (w : World) (hs : s.ok) (hn : 1 ≤ capF n ∧ capF n ≤ 1000) (h : AQ w v0 v1 v2 v3 s) :
    Calls Tryz.prog 29 #[arV s.c s.p v0 v1 v2 v3, .int .i64 n] w fun e w' => ∃ a0 n0 p0 a1 n1 p1 a2 n2 p2 a3 n3 p3 ag ng pg, e = .returned (.tuple #[arV (resizeA s n).1.c (resizeA s n).1.p (.slice a0 n0 p0) (.slice a1 n1 p1) (.slice a2 n2 p2) (.slice a3 n3 p3), .slice ag ng pg]) ∧ AQ w' (.slice a0 n0 p0) (.slice a1 n1 p1) (.slice a2 n2 p2) (.slice a3 n3 p3) (resizeA s n).1 ∧ KL w' (.slice ag ng pg) (resizeA s n).2 ∧ Below w.heap.size w w' := by
  have q1 := hs.len
  have e1 : (resizeA s n).1.c = capF n ∧ (resizeA s n).1.p = min s.p (capF n) := resizeA_cp s n
  refine (arresize_any s.c s.p v0 v1 v2 v3 s.t s.u s.b s.d n w hn.1 hn.2 hs.p0 hs.p1k (by have := hs.al; have := hs.hi; omega) q1.1 q1.2.1 q1.2.2.1 q1.2.2.2 h.t h.u h.b h.d).mono ?_
  rintro e w' ⟨u0, u1, u2, u3, vo, rfl, k0, k1, k2, k3, kg, hb⟩
  obtain ⟨a0, p0, rfl⟩ := k0.form
  obtain ⟨a1, p1, rfl⟩ := k1.form
  obtain ⟨a2, p2, rfl⟩ := k2.form
  obtain ⟨a3, p3, rfl⟩ := k3.form
  obtain ⟨ag, pg, rfl⟩ := kg.form
  exact ⟨a0, _, p0, a1, _, p1, a2, _, p2, a3, _, p3, ag, _, pg, by rw [e1.1, e1.2], ⟨k0, k1, k2, k3⟩, kg, hb⟩
set_option maxHeartbeats 60000000 in
theorem alists_any (c : Int) (v : Value) (A : List Ac) (w : World) (hc0 : 0 ≤ c) (hc1 : c < 256) (h : AL w v A) :
    Calls Tryz.prog 5 #[.int .u8 c, v] w fun e w' => e = .returned (.bool true) ∧ Below w.heap.size w w' := by
  have HAL := Go.Lib.hid h
  obtain ⟨a, cap, rfl, hm, hok, hcell⟩ := h
  have HOK := Go.Lib.hid hok
  clear hok hcell
  have hcm : 0 ≤ c % 12 ∧ c % 12 < 12 := by omega
  obtain ⟨hcm0, hcm1⟩ := hcm
  have HC : Hid (capF (1 + c % 12) = 1 + c % 12) := Go.Lib.hid (capF_id (by omega))
  unfold maxLen at hm
  by_cases hlen : A.length ≤ 60
  · go_enter Tryz.func5, Tryz.ntmps5
    go_wp2_with fail
    refine (aawake_any _).mono ?_
    rintro e w1 ⟨rfl, hb1⟩
    have HB1 := Go.Lib.hid hb1
    clear hb1
    go_wp2_with fail
    refine (anew_any' _ _).mono ?_
    rintro e w2 ⟨px, O2, rfl, hE2, ho2, hb2⟩
    have HE2 := Go.Lib.hid hE2
    have HO2 := Go.Lib.hid ho2
    have HB2 := Go.Lib.hid hb2
    clear hE2 ho2 hb2
    go_wp2_with fail
    refine (arnew_any _ _).mono ?_
    rintro e w3 ⟨rfl, hb3⟩
    have HB3 := Go.Lib.hid hb3
    clear hb3
    go_wp2_with fail
    have HC7 : Hid (Aca (w3.alloc (.cells #[.int .i64 (capF (1 + c % 12)), .int .i64 0, .slice none 0 0, .slice none 0 0, .slice none 0 0, .slice none 0 0] 55)) px O2 ⟨capF (1 + c % 12), 0, [], [], [], []⟩ 0) := Go.Lib.hid ((HE2.out.keep HB3.out).keep ((Below.refl _ _).alloc (Nat.le_refl _) _))
    have sz1 := HB1.out.size
    have sz2 := HB2.out.size
    have sz3 := HB3.out.size
    have HCH : Hid (Chg (fun _ => False) O2 w (w3.alloc (.cells #[.int .i64 (capF (1 + c % 12)), .int .i64 0, .slice none 0 0, .slice none 0 0, .slice none 0 0, .slice none 0 0] 55))) := Go.Lib.hid (by
      have c1 : Chg (fun _ => False) O2 w w2 := ⟨Fr.of_below (HB1.out.trans (HB2.out.mono sz1)), fun k hk => .inr (by have := HO2.out k hk; omega)⟩
      exact (c1.below HB3.out).below ((Below.refl _ _).alloc (Nat.le_refl _) _))
    rw [HC.out] at HC7 HCH
    rw [HC.out]
    have hsok : AS.ok ⟨1 + c % 12, 0, [], [], [], []⟩ := ⟨by show 1 ≤ 1 + c % 12; omega, by show 1 + c % 12 ≤ 14; omega, Int.le_refl 0, by show 0 ≤ 1 + c % 12; omega, by show ((0 : Nat) : Int) + (0 : Nat) ≤ 1 + c % 12; omega, by show ((0 : Nat) : Int) + (0 : Nat) + (0 : Nat) + (0 : Nat) ≤ 2 * (1 + c % 12); omega⟩
    have HSOK := Go.Lib.hid hsok
    have hwB : w.heap.size ≤ w3.heap.size := by omega
    clear hsok
    go_loopw [8] (fun i wr => ∃ (j : Nat) (s : AS) (O : Nat → Prop) (p : Nat) (v0 v1 v2 v3 : Value), j ≤ A.length ∧ i = .int .i64 j ∧ s.ok ∧ p ≤ 28 ∧ Aca wr px O s p ∧ Blk wr w3.heap.size [.int .i64 s.c, .int .i64 s.p, v0, v1, v2, v3] 55 ∧ AQ wr v0 v1 v2 v3 s ∧ Chg (fun _ => False) O w wr) (fun i _ => A.length - (intOf i).toNat)
    case atStart => exact ⟨0, ⟨1 + c % 12, 0, [], [], [], []⟩, O2, 0, .slice none 0 0, .slice none 0 0, .slice none 0 0, .slice none 0 0, by omega, rfl, HSOK.out, by omega, HC7.out, Blk.new0 w3 _ _, AQ.start _ _, HCH.out⟩
    case round =>
      obtain ⟨j, s, O, p, v0, v1, v2, v3, hj, rfl, hs, hp, hE, hb7, hk7, hch⟩ := hrel
      by_cases hlt : j < A.length
      · have HSL := Go.Lib.hid hs.len
        obtain ⟨y0, yc0, rfl⟩ := hk7.t.form
        generalize hyn0 : s.t.length = yn0 at hb7 hk7
        clear hyn0
        obtain ⟨y1, yc1, rfl⟩ := hk7.u.form
        generalize hyn1 : s.u.length = yn1 at hb7 hk7
        clear hyn1
        obtain ⟨y2, yc2, rfl⟩ := hk7.b.form
        generalize hyn2 : s.b.length = yn2 at hb7 hk7
        clear hyn2
        obtain ⟨y3, yc3, rfl⟩ := hk7.d.form
        generalize hyn3 : s.d.length = yn3 at hb7 hk7
        clear hyn3
        obtain ⟨x, hx⟩ : ∃ x, A[j]? = some x := ⟨A[j], List.getElem?_eq_getElem hlt⟩
        have hxo : x.ok := HOK.out x (List.mem_of_getElem? hx)
        obtain ⟨a', cap', e1, _, _, hcl⟩ := HAL.out.keep hch.fr.below
        injection e1 with e2 e3 e4
        subst e2; subst e4
        obtain ⟨ad, rfl, g1, g2, g3, g4⟩ := hcl j x hx
        have gab : (ad.add (j * 3)).block < wr.heap.size := by rw [add_block]; exact g1
        have HXC := Go.Lib.hid (fun (O' : Nat → Prop) (W W' : World) (ch : Chg (fun _ => False) O' w W) (hb : Below W.heap.size W W') => show W'.cell? (ad.add (j * 3)) = some (.int .u8 x.kind) ∧ W'.cell? ⟨(ad.add (j * 3)).block, (ad.add (j * 3)).off + 1, none⟩ = some (.int .u64 x.key) ∧ W'.cell? ⟨(ad.add (j * 3)).block, (ad.add (j * 3)).off + 2, none⟩ = some (.int .u16 x.n) from by
          obtain ⟨a', cap', e1, _, _, hcl⟩ := HAL.out.keep ((ch.fr.below).trans (hb.mono ch.fr.size))
          injection e1 with e2 e3 e4
          subst e4
          obtain ⟨ad', e5, _, f2, f3, f4⟩ := hcl j x hx
          rw [← e2] at e5
          injection e5 with e5
          subst e5
          exact ⟨f2, f3, f4⟩)
        have HXO := Go.Lib.hid hxo
        have HS := Go.Lib.hid hs
        have HE := Go.Lib.hid hE
        have HB7 := Go.Lib.hid hb7
        have HK7 := Go.Lib.hid hk7
        have HCH := Go.Lib.hid hch
        have HAD := Go.Lib.hid (show (ad.add (j * 3)).block < w.heap.size from by
          obtain ⟨a', cap', e1, _, _, hcl⟩ := HAL.out
          injection e1 with e2 e3 e4
          obtain ⟨ad', e5, f1, _, _, _⟩ := hcl j x hx
          rw [← e2] at e5
          injection e5 with e5
          subst e5
          rw [add_block]; exact f1)
        have S9 := fun W' (hb : Below wr.drew.heap.size wr.drew W') => (have q := HXC.out O wr W' hch ((Below.refl _ _).drew.trans hb); have b := hb7.keep ((Below.refl _ _).drew.trans hb); (⟨b.cell 0, b.cell 1, b.cell 2, b.cell 3, b.cell 4, b.cell 5, q.1, q.2.1, q.2.2⟩ : W'.cell? ⟨w3.heap.size, 0, none⟩ = some (.int .i64 s.c) ∧ W'.cell? ⟨w3.heap.size, 1, none⟩ = some (.int .i64 s.p) ∧ W'.cell? ⟨w3.heap.size, 2, none⟩ = some (.slice y0 yn0 yc0) ∧ W'.cell? ⟨w3.heap.size, 3, none⟩ = some (.slice y1 yn1 yc1) ∧ W'.cell? ⟨w3.heap.size, 4, none⟩ = some (.slice y2 yn2 yc2) ∧ W'.cell? ⟨w3.heap.size, 5, none⟩ = some (.slice y3 yn3 yc3) ∧ W'.cell? (ad.add (j * 3)) = some (.int .u8 x.kind) ∧ W'.cell? ⟨(ad.add (j * 3)).block, (ad.add (j * 3)).off + 1, none⟩ = some (.int .u64 x.key) ∧ W'.cell? ⟨(ad.add (j * 3)).block, (ad.add (j * 3)).off + 2, none⟩ = some (.int .u16 x.n)))
        have HS9 := Go.Lib.hid S9
        have HS90 := Go.Lib.hid (S9 _ (Below.refl _ _))
        have HLH := Go.Lib.hid (arl_has s y0 y1 y2 y3 yn0 yn1 yn2 yn3 yc0 yc1 yc2 yc3 x.key wr.drew (hk7.keep (Below.refl _ _).drew))
        have HKD := Go.Lib.hid (fun t w => kind_any x.kind x.key x.n t w hxo.1)
        have HD : Hid (doA s x = if kindF x.kind (decide (x.key ∈ s.t ++ s.u)) = 1 then (touchA s x.key, []) else if kindF x.kind (decide (x.key ∈ s.t ++ s.u)) = 2 then admitA s x.key else if kindF x.kind (decide (x.key ∈ s.t ++ s.u)) = 3 then (dropA s x.key, []) else resizeA s (sizeF x.n)) := Go.Lib.hid rfl
        generalize decide (x.key ∈ s.t ++ s.u) = tb at *
        have l70 := hb7.lt
        clear S9 hx hxo hcl hs hE hb7 hk7 hch e3 g2 g3 g4 g1
        go_wp2_with fail
        go_region_held3 (fun W' => W'.cell? ⟨w3.heap.size, 0, none⟩ = some (.int .i64 s.c) ∧ W'.cell? ⟨w3.heap.size, 1, none⟩ = some (.int .i64 s.p) ∧ W'.cell? ⟨w3.heap.size, 2, none⟩ = some (.slice y0 yn0 yc0) ∧ W'.cell? ⟨w3.heap.size, 3, none⟩ = some (.slice y1 yn1 yc1) ∧ W'.cell? ⟨w3.heap.size, 4, none⟩ = some (.slice y2 yn2 yc2) ∧ W'.cell? ⟨w3.heap.size, 5, none⟩ = some (.slice y3 yn3 yc3) ∧ W'.cell? (ad.add (j * 3)) = some (.int .u8 x.kind) ∧ W'.cell? ⟨(ad.add (j * 3)).block, (ad.add (j * 3)).off + 1, none⟩ = some (.int .u64 x.key) ∧ W'.cell? ⟨(ad.add (j * 3)).block, (ad.add (j * 3)).off + 2, none⟩ = some (.int .u16 x.n))
          (first | with_reducible exact HS9.out _ hb5 | with_reducible exact HS9.out _ hb4 | exact HS90.out)
          (first | (go_at_call 25; refine HLH.out.mono ?_; rintro e w4 ⟨rfl, hb4⟩) | (go_at_call 24; refine (HKD.out _ _).mono ?_; rintro e w5 ⟨rfl, hb5'⟩; have hb5 := hb4.trans (hb5'.mono hb4.size)))
        have B5 : Below wr.heap.size wr w5 := (Below.refl _ _).drew.trans hb5
        have HB5 := Go.Lib.hid B5
        have sz5 := B5.size
        clear hb4 hb5 hb5' B5 HLH HKD
        generalize kindF x.kind tb = kd at *
        have HB75 := Go.Lib.hid (HB7.out.keep HB5.out)
        have HK75 := Go.Lib.hid (HK7.out.keep HB5.out)
        have HCH5 := Go.Lib.hid (HCH.out.below HB5.out)
        have HE5 := Go.Lib.hid (HE.out.keep HB5.out)
        have gab5 : (ad.add (j * 3)).block < w5.heap.size := by omega
        have l75 : w3.heap.size < w5.heap.size := by omega
        clear gab l70
        by_cases h1 : kd = 1
        · subst h1
          rw [if_pos rfl] at HD
          have q5 := HXC.out O w5 w5.drew HCH5.out (Below.refl _ _).drew
          have q51 := q5.2.1
          clear q5
          have c0 : w5.drew.cell? ⟨w3.heap.size, 0, none⟩ = some (.int .i64 s.c) := HB75.out.cell 0
          have c1 : w5.drew.cell? ⟨w3.heap.size, 1, none⟩ = some (.int .i64 s.p) := HB75.out.cell 1
          have c2 : w5.drew.cell? ⟨w3.heap.size, 2, none⟩ = some (.slice y0 yn0 yc0) := HB75.out.cell 2
          have c3 : w5.drew.cell? ⟨w3.heap.size, 3, none⟩ = some (.slice y1 yn1 yc1) := HB75.out.cell 3
          have c4 : w5.drew.cell? ⟨w3.heap.size, 4, none⟩ = some (.slice y2 yn2 yc2) := HB75.out.cell 4
          have c5 : w5.drew.cell? ⟨w3.heap.size, 5, none⟩ = some (.slice y3 yn3 yc3) := HB75.out.cell 5
          have HT := Go.Lib.hid (arl_touch s _ _ _ _ x.key w5.drew HS.out (HK75.out.keep (Below.refl _ _).drew))
          generalize touchA s x.key = t at *
          obtain ⟨g, hg⟩ : ∃ g : List Int, g = [] := ⟨_, rfl⟩
          rw [← hg] at HD
          have HG := Go.Lib.hid hg
          clear hg
          have HKX := Go.Lib.hid (fun W' (hb : Below w5.drew.heap.size w5.drew W') => (HXC.out O w5 W' HCH5.out ((Below.refl _ _).drew.trans hb)).2.1)
          have HKS := Go.Lib.hid (fun (w6 : World) (hb : Below w5.drew.heap.size w5.drew w6) (x0 x1 x2 x3 x4 x5 : Value) => show ((((((w6.setCell ⟨w3.heap.size, 0, none⟩ x0).setCell ⟨w3.heap.size, 1, none⟩ x1).setCell ⟨w3.heap.size, 2, none⟩ x2).setCell ⟨w3.heap.size, 3, none⟩ x3).setCell ⟨w3.heap.size, 4, none⟩ x4).setCell ⟨w3.heap.size, 5, none⟩ x5).cell? ⟨(ad.add (j * 3)).block, (ad.add (j * 3)).off + 1, none⟩ = some (.int .u64 x.key) from by
            have F : Fr (fun k => k = w3.heap.size) w6 ((((((w6.setCell ⟨w3.heap.size, 0, none⟩ x0).setCell ⟨w3.heap.size, 1, none⟩ x1).setCell ⟨w3.heap.size, 2, none⟩ x2).setCell ⟨w3.heap.size, 3, none⟩ x3).setCell ⟨w3.heap.size, 4, none⟩ x4).setCell ⟨w3.heap.size, 5, none⟩ x5) := ((((((Fr.refl (fun k => k = w3.heap.size) w6).setEq rfl _).setEq rfl _).setEq rfl _).setEq rfl _).setEq rfl _).setEq rfl _
            have q := HCH5.out.below ((Below.refl _ _).drew.trans hb)
            have q2 : Chg (fun _ => False) O w ((((((w6.setCell ⟨w3.heap.size, 0, none⟩ x0).setCell ⟨w3.heap.size, 1, none⟩ x1).setCell ⟨w3.heap.size, 2, none⟩ x2).setCell ⟨w3.heap.size, 3, none⟩ x3).setCell ⟨w3.heap.size, 4, none⟩ x4).setCell ⟨w3.heap.size, 5, none⟩ x5) := ⟨q.fr.trans F (fun i e => .inr (by show w.heap.size ≤ i; rw [e]; exact hwB)), q.own⟩
            exact (HXC.out O _ _ q2 (Below.refl _ _)).2.1)
          go_wp2_with fail
          refine wp_region_held_drew (S := fun W' => W'.cell? ⟨(ad.add (j * 3)).block, (ad.add (j * 3)).off + 1, none⟩ = some (.int .u64 x.key)) (by kernel_rfl) q51 (fun hHeld => ?_)
          refine wpAnyH_take (i := 1) (v := ?v1) rfl (by kernel_rfl) (by kernel_rfl) (by kernel_rfl) (fun _ _ _ h => h) (Or.inl ⟨by rfl, ?hy1⟩) (by assumption) ?rest1
          case hy1 => intro w' hSw; (try dsimp only at hSw); go_simp; first | done | with_reducible rfl
          try simp only [Act.put, List.getElem_toArray, List.getElem_cons_succ, List.getElem_cons_zero, List.setIfInBounds_toArray, List.set_cons_zero, List.set_cons_succ]
          refine wpAnyH_take (i := 2) (v := ?v2) rfl (by kernel_rfl) (by kernel_rfl) (by kernel_rfl) (fun _ _ _ h => h) (Or.inl ⟨by rfl, ?hy2⟩) (by assumption) ?rest2
          case hy2 => intro w' hSw; (try dsimp only at hSw); go_simp; first | done | with_reducible rfl
          try simp only [Act.put, List.getElem_toArray, List.getElem_cons_succ, List.getElem_cons_zero, List.setIfInBounds_toArray, List.set_cons_zero, List.set_cons_succ]
          refine wpAnyH_take (i := 3) (v := ?v3) rfl (by kernel_rfl) (by kernel_rfl) (by kernel_rfl) (fun _ _ _ h => h) (Or.inl ⟨by rfl, ?hy3⟩) (by assumption) ?rest3
          case hy3 => intro w' hSw; (try dsimp only at hSw); go_simp; first | done | with_reducible rfl
          try simp only [Act.put, List.getElem_toArray, List.getElem_cons_succ, List.getElem_cons_zero, List.setIfInBounds_toArray, List.set_cons_zero, List.set_cons_succ]
          refine wpAnyH_take (i := 4) (v := ?v4) rfl (by kernel_rfl) (by kernel_rfl) (by kernel_rfl) (fun _ _ _ h => h) (Or.inl ⟨by rfl, ?hy4⟩) (by assumption) ?rest4
          case hy4 => intro w' hSw; (try dsimp only at hSw); go_simp; first | done | with_reducible rfl
          try simp only [Act.put, List.getElem_toArray, List.getElem_cons_succ, List.getElem_cons_zero, List.setIfInBounds_toArray, List.set_cons_zero, List.set_cons_succ]
          refine wpAnyH_take (i := 5) (v := ?v5) rfl (by kernel_rfl) (by kernel_rfl) (by kernel_rfl) (fun _ _ _ h => h) (Or.inl ⟨by rfl, ?hy5⟩) (by assumption) ?rest5
          case hy5 => intro w' hSw; (try dsimp only at hSw); go_simp; first | done | with_reducible rfl
          try simp only [Act.put, List.getElem_toArray, List.getElem_cons_succ, List.getElem_cons_zero, List.setIfInBounds_toArray, List.set_cons_zero, List.set_cons_succ]
          refine wpAnyH_ready (rs := [0]) (by kernel_rfl) (by simp) ?_
          refine AllReadyH.cons rfl (fun K hK => ?_) AllReadyH.nil
          go_simp
          refine hK.out _ _ (q51) (fun hHeld => ?_)
          clear hK K
          try simp only [Act.put, List.getElem_toArray, List.getElem_cons_succ, List.getElem_cons_zero, List.setIfInBounds_toArray, List.set_cons_zero, List.set_cons_succ]
          refine wpAnyH_ready (rs := [6]) (by kernel_rfl) (by simp) ?_
          refine AllReadyH.cons rfl (fun K hK => ?_) AllReadyH.nil
          go_simp
          refine HT.out.mono ?_
          rintro e w6 ⟨z0, zn0, zc0, z1, zn1, zc1, z2, zn2, zc2, z3, zn3, zc3, rfl, hk6, hb6⟩
          refine hK.out _ _ (HKX.out w6 hb6) (fun hHeld => ?_)
          clear hK K
          try simp only [Act.put, List.getElem_toArray, List.getElem_cons_succ, List.getElem_cons_zero, List.setIfInBounds_toArray, List.set_cons_zero, List.set_cons_succ]
          have qb := HB75.out.drew.keep hb6
          have r0 := qb.cell 0
          have r1 := qb.cell 1
          have r2 := qb.cell 2
          have r3 := qb.cell 3
          have r4 := qb.cell 4
          have r5 := qb.cell 5
          have f0 := qb.frozen 0
          have f1 := qb.frozen 1
          have f2 := qb.frozen 2
          have f3 := qb.frozen 3
          have f4 := qb.frozen 4
          have f5 := qb.frozen 5
          simp only [List.getElem?_cons_zero, List.getElem?_cons_succ] at r0 r1 r2 r3 r4 r5
          have rl := qb.lt
          refine wpAnyH_ready (rs := [7]) (by kernel_rfl) (by simp) ?_
          refine AllReadyH.cons rfl (fun K hK => ?_) AllReadyH.nil
          go_simp
          refine hK.out _ _ (HKS.out w6 hb6 _ _ _ _ _ _) (fun hHeld => ?_)
          clear hK K
          try simp only [Act.put, List.getElem_toArray, List.getElem_cons_succ, List.getElem_cons_zero, List.setIfInBounds_toArray, List.set_cons_zero, List.set_cons_succ]
          refine wpAnyH_done (by kernel_rfl) ?_ _
          have B56 : Below w5.heap.size w5 w6 := (Below.refl w5.heap.size w5).drew.trans hb6
          have kg6 : KL w6 (.slice none 0 0) g := by rw [HG.out]; exact KL.nil _
          have t7 := (HE5.out.keep B56).typ qb (by decide) (by decide)
          have E6 := HE5.out.keep B56
          obtain ⟨W7, hW7⟩ : ∃ W7, W7 = (((((w6.setCell ⟨w3.heap.size, 0, none⟩ (.int .i64 t.c)).setCell ⟨w3.heap.size, 1, none⟩ (.int .i64 t.p)).setCell ⟨w3.heap.size, 2, none⟩ (.slice z0 zn0 zc0)).setCell ⟨w3.heap.size, 3, none⟩ (.slice z1 zn1 zc1)).setCell ⟨w3.heap.size, 4, none⟩ (.slice z2 zn2 zc2)).setCell ⟨w3.heap.size, 5, none⟩ (.slice z3 zn3 zc3) := ⟨_, rfl⟩
          have F7 : Fr (fun k => k = w3.heap.size) w6 W7 := by rw [hW7]; exact ((((((Fr.refl (fun k => k = w3.heap.size) w6).setEq rfl _).setEq rfl _).setEq rfl _).setEq rfl _).setEq rfl _).setEq rfl _
          have b7 : Blk W7 w3.heap.size [.int .i64 t.c, .int .i64 t.p, .slice z0 zn0 zc0, .slice z1 zn1 zc1, .slice z2 zn2 zc2, .slice z3 zn3 zc3] 55 := by rw [hW7]; exact (((((qb.set 0 _).set 1 _).set 2 _).set 3 _).set 4 _).set 5 _
          have k7 : AQ W7 (.slice z0 zn0 zc0) (.slice z1 zn1 zc1) (.slice z2 zn2 zc2) (.slice z3 zn3 zc3) t := hk6.fr F7 (fun v L hk b hb e => hk.ne qb (by decide) b hb e)
          have g7 : KL W7 (.slice none 0 0) g := kg6.fr2 F7 (fun b hb e => kg6.ne qb (by decide) b hb e)
          have E7 : Aca W7 px O s p := E6.frame F7 (fun k hk e => t7 (by rw [← e]; exact hk))
          have ch7 : Chg (fun _ => False) O w W7 := by
            have q := HCH5.out.below B56
            exact ⟨q.fr.trans F7 (fun i e => .inr (by show w.heap.size ≤ i; rw [e]; exact hwB)), q.own⟩
          have Dr := (Below.refl W7.heap.size W7).drew
          have hso : AS.ok (doA s x).1 := doA_ok HS.out HXO.out
          have HDO := Go.Lib.hid (ado_any px s x W7.drew HXO.out HS.out (by omega) (E7.keep Dr))
          rw [HD.out] at HDO hso
          simp only at HDO hso
          have HSO := Go.Lib.hid hso
          have HS22 := Go.Lib.hid (fun (W8 W' : World) (O' : Nat → Prop) (b : Blk W8 w3.heap.size [.int .i64 t.c, .int .i64 t.p, .slice z0 zn0 zc0, .slice z1 zn1 zc1, .slice z2 zn2 zc2, .slice z3 zn3 zc3] 55) (ch : Chg (fun _ => False) O' w W8) (hb : Below W8.heap.size W8 W') => (have q := HXC.out O' W8 W' ch hb; have b' := b.keep hb; (⟨b'.cell 0, b'.cell 1, b'.cell 2, b'.cell 3, b'.cell 4, b'.cell 5, q.1, q.2.1, q.2.2⟩ : W'.cell? ⟨w3.heap.size, 0, none⟩ = some (.int .i64 t.c) ∧ W'.cell? ⟨w3.heap.size, 1, none⟩ = some (.int .i64 t.p) ∧ W'.cell? ⟨w3.heap.size, 2, none⟩ = some (.slice z0 zn0 zc0) ∧ W'.cell? ⟨w3.heap.size, 3, none⟩ = some (.slice z1 zn1 zc1) ∧ W'.cell? ⟨w3.heap.size, 4, none⟩ = some (.slice z2 zn2 zc2) ∧ W'.cell? ⟨w3.heap.size, 5, none⟩ = some (.slice z3 zn3 zc3) ∧ W'.cell? (ad.add (j * 3)) = some (.int .u8 x.kind) ∧ W'.cell? ⟨(ad.add (j * 3)).block, (ad.add (j * 3)).off + 1, none⟩ = some (.int .u64 x.key) ∧ W'.cell? ⟨(ad.add (j * 3)).block, (ad.add (j * 3)).off + 2, none⟩ = some (.int .u16 x.n))))
          have HS220 := Go.Lib.hid (HS22.out _ _ _ b7 ch7 Dr)
          have Hk7 := Go.Lib.hid (k7.keep Dr)
          have Hg7 := Go.Lib.hid (g7.keep Dr)
          have HE7 := Go.Lib.hid (E7.keep Dr)
          have HCH7 := Go.Lib.hid (ch7.below Dr)
          have HT7 := Go.Lib.hid ((E7.keep Dr).typ (b7.keep Dr) (by decide) (by decide))
          have HBd := Go.Lib.hid (b7.keep Dr)
          have l77 := b7.lt
          have hss := F7.size
          have hsz := B56.size
          have gab7 : (ad.add (j * 3)).block < W7.heap.size := by omega
          have HW7 := Go.Lib.hid hW7
          rw [← hW7]
          clear hW7 B56 E6 t7 F7 b7 k7 g7 E7 ch7 Dr hso
          clear hb6 hk6 kg6 qb r0 r1 r2 r3 r4 r5 f0 f1 f2 f3 f4 f5 rl c0 c1 c2 c3 c4 c5 q51
          go_wp2_with fail
          go_region_held3 (fun W' => W'.cell? ⟨w3.heap.size, 0, none⟩ = some (.int .i64 t.c) ∧ W'.cell? ⟨w3.heap.size, 1, none⟩ = some (.int .i64 t.p) ∧ W'.cell? ⟨w3.heap.size, 2, none⟩ = some (.slice z0 zn0 zc0) ∧ W'.cell? ⟨w3.heap.size, 3, none⟩ = some (.slice z1 zn1 zc1) ∧ W'.cell? ⟨w3.heap.size, 4, none⟩ = some (.slice z2 zn2 zc2) ∧ W'.cell? ⟨w3.heap.size, 5, none⟩ = some (.slice z3 zn3 zc3) ∧ W'.cell? (ad.add (j * 3)) = some (.int .u8 x.kind) ∧ W'.cell? ⟨(ad.add (j * 3)).block, (ad.add (j * 3)).off + 1, none⟩ = some (.int .u64 x.key) ∧ W'.cell? ⟨(ad.add (j * 3)).block, (ad.add (j * 3)).off + 2, none⟩ = some (.int .u16 x.n))
            (first | with_reducible exact HS22.out _ _ _ b78 ch8 hb13 | with_reducible exact HS22.out _ _ _ b78 ch8 hb14 | with_reducible exact HS22.out _ _ _ b78 ch8 hb12 | with_reducible exact HS22.out _ _ _ b78 ch8 hb11 | with_reducible exact HS22.out _ _ _ b78 ch8 hb10 | with_reducible exact HS22.out _ _ _ b78 ch8 hb9 | with_reducible exact HS22.out _ _ _ b78 ch8 (Below.refl _ _) | exact HS220.out)
            (first | (go_at_call 31; refine HDO.out.mono ?_; rintro e w8 ⟨vo, O9, p9, rfl, hko, hE8, hC8, hp8⟩; (have b78 := hC8.blk HT7.out HBd.out; have ch8 := HCH7.out.trans hC8; have kg8 := Hg7.out.fr2 hC8.fr (HE7.out.kl Hg7.out); have k78 := Hk7.out.fr hC8.fr (fun v L hk => HE7.out.kl hk))) | (go_at_call 12; have z2 := hkl; refine (same_rfq _ _ _ _ (hkk.keep hb11') z2).mono ?_; rintro e w12 ⟨rfl, hb12'⟩; have hb12 := hb11.trans (hb12'.mono hb11.size)) | (go_at_call 12; refine (same_rfq _ _ _ _ hko kg8).mono ?_; rintro e w9 ⟨rfl, hb9⟩) | (go_at_call 32; refine (akeys_any px _ (hE8.keep hb9)).mono ?_; rintro e w10 ⟨vk, rfl, hkk, hb10'⟩; have hb10 := hb9.trans (hb10'.mono hb9.size)) | (go_at_call 33; refine (arl_keys t _ _ _ _ _ HSO.out (k78.keep hb10)).mono ?_; rintro e w11 ⟨vl, rfl, hkl, hb11'⟩; have hb11 := hb10.trans (hb11'.mono hb10.size)) | (go_at_call 34; refine (aghosts_any px _ (hE8.keep hb12)).mono ?_; rintro e w14 ⟨rfl, hb14'⟩; have hb14 := hb12.trans (hb14'.mono hb12.size)) | (go_at_call 35; refine (arl_ghosts t _ _ _ _ _ HSO.out (k78.keep hb14)).mono ?_; rintro e w13 ⟨rfl, hb13'⟩; have hb13 := hb14.trans (hb13'.mono hb14.size)))
          have HE9 := Go.Lib.hid (hE8.keep hb13)
          have Hb9 := Go.Lib.hid (b78.keep hb13)
          have Hk9 := Go.Lib.hid (k78.keep hb13)
          have HC9 := Go.Lib.hid (ch8.below hb13)
          have hpp : p9 ≤ 28 := by have q1 := hp8; have q2 := HS.out.hi; omega
          clear hb9 hb10 hb11 hb12 hb13 hb10' hb11' hb12' hb13' hb14 hb14' hko hE8 hC8 hp8 b78 ch8 kg8 k78 hkk hkl z2
          go_wp2_with fail
          go_roundw
          case rel => exact ⟨j + 1, t, O9, p9, _, _, _, _, by omega, by go_num, HSO.out, hpp, HE9.out, Hb9.out, Hk9.out, HC9.out⟩
          case measure => simp [intOf]; omega
        rw [if_neg h1] at HD
        by_cases h2 : kd = 2
        · subst h2
          rw [if_pos rfl] at HD
          have S1 := fun W' (hb : Below w5.drew.heap.size w5.drew W') => (have q := HXC.out O w5 W' HCH5.out ((Below.refl _ _).drew.trans hb); have b := HB75.out.keep ((Below.refl _ _).drew.trans hb); (⟨b.cell 0, b.cell 1, b.cell 2, b.cell 3, b.cell 4, b.cell 5, q.1, q.2.1, q.2.2⟩ : W'.cell? ⟨w3.heap.size, 0, none⟩ = some (.int .i64 s.c) ∧ W'.cell? ⟨w3.heap.size, 1, none⟩ = some (.int .i64 s.p) ∧ W'.cell? ⟨w3.heap.size, 2, none⟩ = some (.slice y0 yn0 yc0) ∧ W'.cell? ⟨w3.heap.size, 3, none⟩ = some (.slice y1 yn1 yc1) ∧ W'.cell? ⟨w3.heap.size, 4, none⟩ = some (.slice y2 yn2 yc2) ∧ W'.cell? ⟨w3.heap.size, 5, none⟩ = some (.slice y3 yn3 yc3) ∧ W'.cell? (ad.add (j * 3)) = some (.int .u8 x.kind) ∧ W'.cell? ⟨(ad.add (j * 3)).block, (ad.add (j * 3)).off + 1, none⟩ = some (.int .u64 x.key) ∧ W'.cell? ⟨(ad.add (j * 3)).block, (ad.add (j * 3)).off + 2, none⟩ = some (.int .u16 x.n)))
          have S3 := fun W' u0 u1 u2 u3 u4 u5 (hb : Below w5.drew.heap.size w5.drew W') => S1 ((((((W'.setCell ⟨w5.heap.size, 0, none⟩ u0).setCell ⟨w5.heap.size, 1, none⟩ u1).setCell ⟨w5.heap.size, 2, none⟩ u2).setCell ⟨w5.heap.size, 3, none⟩ u3).setCell ⟨w5.heap.size, 4, none⟩ u4).setCell ⟨w5.heap.size, 5, none⟩ u5) (below_set (below_set (below_set (below_set (below_set (below_set hb (Nat.le_refl _) u0) (Nat.le_refl _) u1) (Nat.le_refl _) u2) (Nat.le_refl _) u3) (Nat.le_refl _) u4) (Nat.le_refl _) u5)
          have HS1 := Go.Lib.hid S1
          have HS3 := Go.Lib.hid S3
          have HS0 := Go.Lib.hid (S1 _ (Below.refl _ _))
          clear S1 S3
          have HRD := Go.Lib.hid (fun W (hb : Below w5.drew.heap.size w5.drew W) => arl_admit s _ _ _ _ x.key W HS.out (HE5.out.apart x.key) (HK75.out.keep ((Below.refl _ _).drew.trans hb)))
          obtain ⟨t, g, htg⟩ : ∃ t g, admitA s x.key = (t, g) := ⟨_, _, rfl⟩
          rw [htg] at HD HRD
          clear htg
          simp only at HRD
          go_wp2_with fail
          go_region_held3 (fun W' => W'.cell? ⟨w3.heap.size, 0, none⟩ = some (.int .i64 s.c) ∧ W'.cell? ⟨w3.heap.size, 1, none⟩ = some (.int .i64 s.p) ∧ W'.cell? ⟨w3.heap.size, 2, none⟩ = some (.slice y0 yn0 yc0) ∧ W'.cell? ⟨w3.heap.size, 3, none⟩ = some (.slice y1 yn1 yc1) ∧ W'.cell? ⟨w3.heap.size, 4, none⟩ = some (.slice y2 yn2 yc2) ∧ W'.cell? ⟨w3.heap.size, 5, none⟩ = some (.slice y3 yn3 yc3) ∧ W'.cell? (ad.add (j * 3)) = some (.int .u8 x.kind) ∧ W'.cell? ⟨(ad.add (j * 3)).block, (ad.add (j * 3)).off + 1, none⟩ = some (.int .u64 x.key) ∧ W'.cell? ⟨(ad.add (j * 3)).block, (ad.add (j * 3)).off + 2, none⟩ = some (.int .u16 x.n))
            (first | with_reducible exact HS3.out _ _ _ _ _ _ _ hb6' | with_reducible exact HS1.out _ hb6' | with_reducible exact HS1.out _ (hb6'.alloc hb6'.size _) | with_reducible exact HS1.out _ ((Below.refl _ _).alloc (Nat.le_refl _) _) | exact HS0.out)
            (first | (go_at_call 27; refine (HRD.out _ (by first | exact Below.refl _ _ | exact (Below.refl _ _).alloc (Nat.le_refl _) _)).mono ?_; rintro e w6 ⟨z0, zn0, zc0, z1, zn1, zc1, z2, zn2, zc2, z3, zn3, zc3, ag, ng, cg, rfl, hk6, hg6, hb6⟩; (have hb6' : Below w5.drew.heap.size w5.drew w6 := by first | exact hb6 | exact ((Below.refl _ _).alloc (Nat.le_refl _) _).trans (hb6.mono (by simp))); (try (have b10 := (Blk.new0 w5.drew [.int .i64 0, .int .i64 0, .slice none 0 0, .slice none 0 0, .slice none 0 0, .slice none 0 0] 55).keep hb6; have d0 := b10.cell 0; have d1 := b10.cell 1; have d2 := b10.cell 2; have d3 := b10.cell 3; have d4 := b10.cell 4; have d5 := b10.cell 5; have h0 := b10.frozen 0; have h1 := b10.frozen 1; have h2 := b10.frozen 2; have h3 := b10.frozen 3; have h4 := b10.frozen 4; have h5 := b10.frozen 5; simp only [List.getElem?_cons_zero, List.getElem?_cons_succ, World.size_drew] at d0 d1 d2 d3 d4 d5 h0 h1 h2 h3 h4 h5; have l10 := b10.lt; (try simp only [World.size_drew] at l10)))))
          · have B56 : Below w5.heap.size w5 w6 := (Below.refl _ _).drew.trans hb6'
            obtain ⟨W6, hW6⟩ : ∃ W6, W6 = w6.alloc (.cells #[.int .i64 t.c, .int .i64 t.p, .slice z0 zn0 zc0, .slice z1 zn1 zc1, .slice z2 zn2 zc2, .slice z3 zn3 zc3] 55) := ⟨_, rfl⟩
            have B66 : Below w6.heap.size w6 W6 := by rw [hW6]; exact (Below.refl _ _).alloc (Nat.le_refl _) _
            have c10 : Blk W6 w6.heap.size [.int .i64 t.c, .int .i64 t.p, .slice z0 zn0 zc0, .slice z1 zn1 zc1, .slice z2 zn2 zc2, .slice z3 zn3 zc3] 55 := by rw [hW6]; exact Blk.new0 w6 _ _
            have hB6 : Below w5.heap.size w5 W6 := B56.trans (B66.mono B56.size)
            have hBn : w3.heap.size < w6.heap.size := by have := B56.size; omega
            have k6 := hk6.keep B66
            have g6 := hg6.keep B66
            rw [← hW6]
            clear hW6 B66 B56 hk6 hg6 hb6 hb6' 
            generalize w6.heap.size = B10 at *
            have b7w := HB75.out.keep hB6
            have hne : w3.heap.size ≠ B10 := by omega
            have hne' : B10 ≠ w3.heap.size := hne.symm
            have r0 := b7w.cell 0
            have r1 := b7w.cell 1
            have r2 := b7w.cell 2
            have r3 := b7w.cell 3
            have r4 := b7w.cell 4
            have r5 := b7w.cell 5
            have f0 := b7w.frozen 0
            have f1 := b7w.frozen 1
            have f2 := b7w.frozen 2
            have f3 := b7w.frozen 3
            have f4 := b7w.frozen 4
            have f5 := b7w.frozen 5
            simp only [List.getElem?_cons_zero, List.getElem?_cons_succ] at r0 r1 r2 r3 r4 r5
            have l7 := b7w.lt
            have d0 := c10.cell 0
            have d1 := c10.cell 1
            have d2 := c10.cell 2
            have d3 := c10.cell 3
            have d4 := c10.cell 4
            have d5 := c10.cell 5
            have h0 := c10.frozen 0
            have h1 := c10.frozen 1
            have h2 := c10.frozen 2
            have h3 := c10.frozen 3
            have h4 := c10.frozen 4
            have h5 := c10.frozen 5
            simp only [List.getElem?_cons_zero, List.getElem?_cons_succ] at d0 d1 d2 d3 d4 d5
            have l10 := c10.lt
            have B56 := hB6
            have t7 := (HE5.out.keep B56).typ b7w (by decide) (by decide)
            have E6 := HE5.out.keep B56
            obtain ⟨W7, hW7⟩ : ∃ W7, W7 = (((((W6.setCell ⟨w3.heap.size, 0, none⟩ (.int .i64 t.c)).setCell ⟨w3.heap.size, 1, none⟩ (.int .i64 t.p)).setCell ⟨w3.heap.size, 2, none⟩ (.slice z0 zn0 zc0)).setCell ⟨w3.heap.size, 3, none⟩ (.slice z1 zn1 zc1)).setCell ⟨w3.heap.size, 4, none⟩ (.slice z2 zn2 zc2)).setCell ⟨w3.heap.size, 5, none⟩ (.slice z3 zn3 zc3) := ⟨_, rfl⟩
            have F7 : Fr (fun k => k = w3.heap.size) W6 W7 := by rw [hW7]; exact ((((((Fr.refl (fun k => k = w3.heap.size) W6).setEq rfl _).setEq rfl _).setEq rfl _).setEq rfl _).setEq rfl _).setEq rfl _
            have b7 : Blk W7 w3.heap.size [.int .i64 t.c, .int .i64 t.p, .slice z0 zn0 zc0, .slice z1 zn1 zc1, .slice z2 zn2 zc2, .slice z3 zn3 zc3] 55 := by rw [hW7]; exact (((((b7w.set 0 _).set 1 _).set 2 _).set 3 _).set 4 _).set 5 _
            have k7 : AQ W7 (.slice z0 zn0 zc0) (.slice z1 zn1 zc1) (.slice z2 zn2 zc2) (.slice z3 zn3 zc3) t := k6.fr F7 (fun v L hk b hb e => hk.ne b7w (by decide) b hb e)
            have g7 : KL W7 (.slice ag ng cg) g := g6.fr2 F7 (fun b hb e => g6.ne b7w (by decide) b hb e)
            have E7 : Aca W7 px O s p := E6.frame F7 (fun k hk e => t7 (by rw [← e]; exact hk))
            have ch7 : Chg (fun _ => False) O w W7 := by
              have q := HCH5.out.below B56
              exact ⟨q.fr.trans F7 (fun i e => .inr (by show w.heap.size ≤ i; rw [e]; exact hwB)), q.own⟩
            have Dr := (Below.refl W7.heap.size W7).drew
            have hso : AS.ok (doA s x).1 := doA_ok HS.out HXO.out
            have HDO := Go.Lib.hid (ado_any px s x W7.drew HXO.out HS.out (by omega) (E7.keep Dr))
            rw [HD.out] at HDO hso
            simp only at HDO hso
            have HSO := Go.Lib.hid hso
            have HS22 := Go.Lib.hid (fun (W8 W' : World) (O' : Nat → Prop) (b : Blk W8 w3.heap.size [.int .i64 t.c, .int .i64 t.p, .slice z0 zn0 zc0, .slice z1 zn1 zc1, .slice z2 zn2 zc2, .slice z3 zn3 zc3] 55) (ch : Chg (fun _ => False) O' w W8) (hb : Below W8.heap.size W8 W') => (have q := HXC.out O' W8 W' ch hb; have b' := b.keep hb; (⟨b'.cell 0, b'.cell 1, b'.cell 2, b'.cell 3, b'.cell 4, b'.cell 5, q.1, q.2.1, q.2.2⟩ : W'.cell? ⟨w3.heap.size, 0, none⟩ = some (.int .i64 t.c) ∧ W'.cell? ⟨w3.heap.size, 1, none⟩ = some (.int .i64 t.p) ∧ W'.cell? ⟨w3.heap.size, 2, none⟩ = some (.slice z0 zn0 zc0) ∧ W'.cell? ⟨w3.heap.size, 3, none⟩ = some (.slice z1 zn1 zc1) ∧ W'.cell? ⟨w3.heap.size, 4, none⟩ = some (.slice z2 zn2 zc2) ∧ W'.cell? ⟨w3.heap.size, 5, none⟩ = some (.slice z3 zn3 zc3) ∧ W'.cell? (ad.add (j * 3)) = some (.int .u8 x.kind) ∧ W'.cell? ⟨(ad.add (j * 3)).block, (ad.add (j * 3)).off + 1, none⟩ = some (.int .u64 x.key) ∧ W'.cell? ⟨(ad.add (j * 3)).block, (ad.add (j * 3)).off + 2, none⟩ = some (.int .u16 x.n))))
            have HS220 := Go.Lib.hid (HS22.out _ _ _ b7 ch7 Dr)
            have Hk7 := Go.Lib.hid (k7.keep Dr)
            have Hg7 := Go.Lib.hid (g7.keep Dr)
            have HE7 := Go.Lib.hid (E7.keep Dr)
            have HCH7 := Go.Lib.hid (ch7.below Dr)
            have HT7 := Go.Lib.hid ((E7.keep Dr).typ (b7.keep Dr) (by decide) (by decide))
            have HBd := Go.Lib.hid (b7.keep Dr)
            have l77 := b7.lt
            have hss := F7.size
            have hsz := B56.size
            have gab7 : (ad.add (j * 3)).block < W7.heap.size := by omega
            have HW7 := Go.Lib.hid hW7
            clear hW7 B56 E6 t7 F7 b7 k7 g7 E7 ch7 Dr hso
            clear hB6 b7w k6 g6 c10
            go_wp2_with fail
            rw [← HW7.out]
            clear r0 r1 r2 r3 r4 r5 f0 f1 f2 f3 f4 f5 d0 d1 d2 d3 d4 d5 h0 h1 h2 h3 h4 h5 l7 l10
            go_region_held3 (fun W' => W'.cell? ⟨w3.heap.size, 0, none⟩ = some (.int .i64 t.c) ∧ W'.cell? ⟨w3.heap.size, 1, none⟩ = some (.int .i64 t.p) ∧ W'.cell? ⟨w3.heap.size, 2, none⟩ = some (.slice z0 zn0 zc0) ∧ W'.cell? ⟨w3.heap.size, 3, none⟩ = some (.slice z1 zn1 zc1) ∧ W'.cell? ⟨w3.heap.size, 4, none⟩ = some (.slice z2 zn2 zc2) ∧ W'.cell? ⟨w3.heap.size, 5, none⟩ = some (.slice z3 zn3 zc3) ∧ W'.cell? (ad.add (j * 3)) = some (.int .u8 x.kind) ∧ W'.cell? ⟨(ad.add (j * 3)).block, (ad.add (j * 3)).off + 1, none⟩ = some (.int .u64 x.key) ∧ W'.cell? ⟨(ad.add (j * 3)).block, (ad.add (j * 3)).off + 2, none⟩ = some (.int .u16 x.n))
              (first | with_reducible exact HS22.out _ _ _ b78 ch8 hb13 | with_reducible exact HS22.out _ _ _ b78 ch8 hb14 | with_reducible exact HS22.out _ _ _ b78 ch8 hb12 | with_reducible exact HS22.out _ _ _ b78 ch8 hb11 | with_reducible exact HS22.out _ _ _ b78 ch8 hb10 | with_reducible exact HS22.out _ _ _ b78 ch8 hb9 | with_reducible exact HS22.out _ _ _ b78 ch8 (Below.refl _ _) | exact HS220.out)
              (first | (go_at_call 31; refine HDO.out.mono ?_; rintro e w8 ⟨vo, O9, p9, rfl, hko, hE8, hC8, hp8⟩; (have b78 := hC8.blk HT7.out HBd.out; have ch8 := HCH7.out.trans hC8; have kg8 := Hg7.out.fr2 hC8.fr (HE7.out.kl Hg7.out); have k78 := Hk7.out.fr hC8.fr (fun v L hk => HE7.out.kl hk))) | (go_at_call 12; have z2 := hkl; refine (same_rfq _ _ _ _ (hkk.keep hb11') z2).mono ?_; rintro e w12 ⟨rfl, hb12'⟩; have hb12 := hb11.trans (hb12'.mono hb11.size)) | (go_at_call 12; refine (same_rfq _ _ _ _ hko kg8).mono ?_; rintro e w9 ⟨rfl, hb9⟩) | (go_at_call 32; refine (akeys_any px _ (hE8.keep hb9)).mono ?_; rintro e w10 ⟨vk, rfl, hkk, hb10'⟩; have hb10 := hb9.trans (hb10'.mono hb9.size)) | (go_at_call 33; refine (arl_keys t _ _ _ _ _ HSO.out (k78.keep hb10)).mono ?_; rintro e w11 ⟨vl, rfl, hkl, hb11'⟩; have hb11 := hb10.trans (hb11'.mono hb10.size)) | (go_at_call 34; refine (aghosts_any px _ (hE8.keep hb12)).mono ?_; rintro e w14 ⟨rfl, hb14'⟩; have hb14 := hb12.trans (hb14'.mono hb12.size)) | (go_at_call 35; refine (arl_ghosts t _ _ _ _ _ HSO.out (k78.keep hb14)).mono ?_; rintro e w13 ⟨rfl, hb13'⟩; have hb13 := hb14.trans (hb13'.mono hb14.size)))
            have HE9 := Go.Lib.hid (hE8.keep hb13)
            have Hb9 := Go.Lib.hid (b78.keep hb13)
            have Hk9 := Go.Lib.hid (k78.keep hb13)
            have HC9 := Go.Lib.hid (ch8.below hb13)
            have hpp : p9 ≤ 28 := by have q1 := hp8; have q2 := HS.out.hi; omega
            clear hb9 hb10 hb11 hb12 hb13 hb10' hb11' hb12' hb13' hb14 hb14' hko hE8 hC8 hp8 b78 ch8 kg8 k78 hkk hkl z2
            go_wp2_with fail
            go_roundw
            case rel => exact ⟨j + 1, t, O9, p9, _, _, _, _, by omega, by go_num, HSO.out, hpp, HE9.out, Hb9.out, Hk9.out, HC9.out⟩
            case measure => simp [intOf]; omega
          · have B56 : Below w5.heap.size w5 w6 := (Below.refl _ _).drew.trans hb6'
            obtain ⟨W6, hW6⟩ : ∃ W6, W6 = (((((w6.setCell ⟨w5.heap.size, 0, none⟩ (.int .i64 t.c)).setCell ⟨w5.heap.size, 1, none⟩ (.int .i64 t.p)).setCell ⟨w5.heap.size, 2, none⟩ (.slice z0 zn0 zc0)).setCell ⟨w5.heap.size, 3, none⟩ (.slice z1 zn1 zc1)).setCell ⟨w5.heap.size, 4, none⟩ (.slice z2 zn2 zc2)).setCell ⟨w5.heap.size, 5, none⟩ (.slice z3 zn3 zc3) := ⟨_, rfl⟩
            have F6 : Fr (fun k => k = w5.heap.size) w6 W6 := by rw [hW6]; exact ((((((Fr.refl (fun k => k = w5.heap.size) w6).setEq rfl _).setEq rfl _).setEq rfl _).setEq rfl _).setEq rfl _).setEq rfl _
            have hB6 : Below w5.heap.size w5 W6 := by rw [hW6]; exact (below_set (below_set (below_set (below_set (below_set (below_set B56 (Nat.le_refl _) _) (Nat.le_refl _) _) (Nat.le_refl _) _) (Nat.le_refl _) _) (Nat.le_refl _) _) (Nat.le_refl _) _)
            have c10 : Blk W6 (w5.heap.size) [.int .i64 t.c, .int .i64 t.p, .slice z0 zn0 zc0, .slice z1 zn1 zc1, .slice z2 zn2 zc2, .slice z3 zn3 zc3] 55 := by rw [hW6]; exact (((((b10.set 0 _).set 1 _).set 2 _).set 3 _).set 4 _).set 5 _
            have k6 := hk6.fr F6 (fun v L hk b hb e => hk.ne b10 (by decide) b hb e)
            have g6 := hg6.fr2 F6 (fun b hb e => hg6.ne b10 (by decide) b hb e)
            have hBn : w3.heap.size < w5.heap.size := by exact l75
            rw [← hW6]
            clear hW6 F6 B56 hk6 hg6 hb6 hb6'  b10 d0 d1 d2 d3 d4 d5 h0 h1 h2 h3 h4 h5 l10
            generalize hBB : w5.heap.size = B10 at c10 hBn ⊢
            clear hBB
            have b7w := HB75.out.keep hB6
            have hne : w3.heap.size ≠ B10 := by omega
            have hne' : B10 ≠ w3.heap.size := hne.symm
            have r0 := b7w.cell 0
            have r1 := b7w.cell 1
            have r2 := b7w.cell 2
            have r3 := b7w.cell 3
            have r4 := b7w.cell 4
            have r5 := b7w.cell 5
            have f0 := b7w.frozen 0
            have f1 := b7w.frozen 1
            have f2 := b7w.frozen 2
            have f3 := b7w.frozen 3
            have f4 := b7w.frozen 4
            have f5 := b7w.frozen 5
            simp only [List.getElem?_cons_zero, List.getElem?_cons_succ] at r0 r1 r2 r3 r4 r5
            have l7 := b7w.lt
            have d0 := c10.cell 0
            have d1 := c10.cell 1
            have d2 := c10.cell 2
            have d3 := c10.cell 3
            have d4 := c10.cell 4
            have d5 := c10.cell 5
            have h0 := c10.frozen 0
            have h1 := c10.frozen 1
            have h2 := c10.frozen 2
            have h3 := c10.frozen 3
            have h4 := c10.frozen 4
            have h5 := c10.frozen 5
            simp only [List.getElem?_cons_zero, List.getElem?_cons_succ] at d0 d1 d2 d3 d4 d5
            have l10 := c10.lt
            have B56 := hB6
            have t7 := (HE5.out.keep B56).typ b7w (by decide) (by decide)
            have E6 := HE5.out.keep B56
            obtain ⟨W7, hW7⟩ : ∃ W7, W7 = (((((W6.setCell ⟨w3.heap.size, 0, none⟩ (.int .i64 t.c)).setCell ⟨w3.heap.size, 1, none⟩ (.int .i64 t.p)).setCell ⟨w3.heap.size, 2, none⟩ (.slice z0 zn0 zc0)).setCell ⟨w3.heap.size, 3, none⟩ (.slice z1 zn1 zc1)).setCell ⟨w3.heap.size, 4, none⟩ (.slice z2 zn2 zc2)).setCell ⟨w3.heap.size, 5, none⟩ (.slice z3 zn3 zc3) := ⟨_, rfl⟩
            have F7 : Fr (fun k => k = w3.heap.size) W6 W7 := by rw [hW7]; exact ((((((Fr.refl (fun k => k = w3.heap.size) W6).setEq rfl _).setEq rfl _).setEq rfl _).setEq rfl _).setEq rfl _).setEq rfl _
            have b7 : Blk W7 w3.heap.size [.int .i64 t.c, .int .i64 t.p, .slice z0 zn0 zc0, .slice z1 zn1 zc1, .slice z2 zn2 zc2, .slice z3 zn3 zc3] 55 := by rw [hW7]; exact (((((b7w.set 0 _).set 1 _).set 2 _).set 3 _).set 4 _).set 5 _
            have k7 : AQ W7 (.slice z0 zn0 zc0) (.slice z1 zn1 zc1) (.slice z2 zn2 zc2) (.slice z3 zn3 zc3) t := k6.fr F7 (fun v L hk b hb e => hk.ne b7w (by decide) b hb e)
            have g7 : KL W7 (.slice ag ng cg) g := g6.fr2 F7 (fun b hb e => g6.ne b7w (by decide) b hb e)
            have E7 : Aca W7 px O s p := E6.frame F7 (fun k hk e => t7 (by rw [← e]; exact hk))
            have ch7 : Chg (fun _ => False) O w W7 := by
              have q := HCH5.out.below B56
              exact ⟨q.fr.trans F7 (fun i e => .inr (by show w.heap.size ≤ i; rw [e]; exact hwB)), q.own⟩
            have Dr := (Below.refl W7.heap.size W7).drew
            have hso : AS.ok (doA s x).1 := doA_ok HS.out HXO.out
            have HDO := Go.Lib.hid (ado_any px s x W7.drew HXO.out HS.out (by omega) (E7.keep Dr))
            rw [HD.out] at HDO hso
            simp only at HDO hso
            have HSO := Go.Lib.hid hso
            have HS22 := Go.Lib.hid (fun (W8 W' : World) (O' : Nat → Prop) (b : Blk W8 w3.heap.size [.int .i64 t.c, .int .i64 t.p, .slice z0 zn0 zc0, .slice z1 zn1 zc1, .slice z2 zn2 zc2, .slice z3 zn3 zc3] 55) (ch : Chg (fun _ => False) O' w W8) (hb : Below W8.heap.size W8 W') => (have q := HXC.out O' W8 W' ch hb; have b' := b.keep hb; (⟨b'.cell 0, b'.cell 1, b'.cell 2, b'.cell 3, b'.cell 4, b'.cell 5, q.1, q.2.1, q.2.2⟩ : W'.cell? ⟨w3.heap.size, 0, none⟩ = some (.int .i64 t.c) ∧ W'.cell? ⟨w3.heap.size, 1, none⟩ = some (.int .i64 t.p) ∧ W'.cell? ⟨w3.heap.size, 2, none⟩ = some (.slice z0 zn0 zc0) ∧ W'.cell? ⟨w3.heap.size, 3, none⟩ = some (.slice z1 zn1 zc1) ∧ W'.cell? ⟨w3.heap.size, 4, none⟩ = some (.slice z2 zn2 zc2) ∧ W'.cell? ⟨w3.heap.size, 5, none⟩ = some (.slice z3 zn3 zc3) ∧ W'.cell? (ad.add (j * 3)) = some (.int .u8 x.kind) ∧ W'.cell? ⟨(ad.add (j * 3)).block, (ad.add (j * 3)).off + 1, none⟩ = some (.int .u64 x.key) ∧ W'.cell? ⟨(ad.add (j * 3)).block, (ad.add (j * 3)).off + 2, none⟩ = some (.int .u16 x.n))))
            have HS220 := Go.Lib.hid (HS22.out _ _ _ b7 ch7 Dr)
            have Hk7 := Go.Lib.hid (k7.keep Dr)
            have Hg7 := Go.Lib.hid (g7.keep Dr)
            have HE7 := Go.Lib.hid (E7.keep Dr)
            have HCH7 := Go.Lib.hid (ch7.below Dr)
            have HT7 := Go.Lib.hid ((E7.keep Dr).typ (b7.keep Dr) (by decide) (by decide))
            have HBd := Go.Lib.hid (b7.keep Dr)
            have l77 := b7.lt
            have hss := F7.size
            have hsz := B56.size
            have gab7 : (ad.add (j * 3)).block < W7.heap.size := by omega
            have HW7 := Go.Lib.hid hW7
            clear hW7 B56 E6 t7 F7 b7 k7 g7 E7 ch7 Dr hso
            clear hB6 b7w k6 g6 c10
            go_wp2_with fail
            rw [← HW7.out]
            clear r0 r1 r2 r3 r4 r5 f0 f1 f2 f3 f4 f5 d0 d1 d2 d3 d4 d5 h0 h1 h2 h3 h4 h5 l7 l10
            go_region_held3 (fun W' => W'.cell? ⟨w3.heap.size, 0, none⟩ = some (.int .i64 t.c) ∧ W'.cell? ⟨w3.heap.size, 1, none⟩ = some (.int .i64 t.p) ∧ W'.cell? ⟨w3.heap.size, 2, none⟩ = some (.slice z0 zn0 zc0) ∧ W'.cell? ⟨w3.heap.size, 3, none⟩ = some (.slice z1 zn1 zc1) ∧ W'.cell? ⟨w3.heap.size, 4, none⟩ = some (.slice z2 zn2 zc2) ∧ W'.cell? ⟨w3.heap.size, 5, none⟩ = some (.slice z3 zn3 zc3) ∧ W'.cell? (ad.add (j * 3)) = some (.int .u8 x.kind) ∧ W'.cell? ⟨(ad.add (j * 3)).block, (ad.add (j * 3)).off + 1, none⟩ = some (.int .u64 x.key) ∧ W'.cell? ⟨(ad.add (j * 3)).block, (ad.add (j * 3)).off + 2, none⟩ = some (.int .u16 x.n))
              (first | with_reducible exact HS22.out _ _ _ b78 ch8 hb13 | with_reducible exact HS22.out _ _ _ b78 ch8 hb14 | with_reducible exact HS22.out _ _ _ b78 ch8 hb12 | with_reducible exact HS22.out _ _ _ b78 ch8 hb11 | with_reducible exact HS22.out _ _ _ b78 ch8 hb10 | with_reducible exact HS22.out _ _ _ b78 ch8 hb9 | with_reducible exact HS22.out _ _ _ b78 ch8 (Below.refl _ _) | exact HS220.out)
              (first | (go_at_call 31; refine HDO.out.mono ?_; rintro e w8 ⟨vo, O9, p9, rfl, hko, hE8, hC8, hp8⟩; (have b78 := hC8.blk HT7.out HBd.out; have ch8 := HCH7.out.trans hC8; have kg8 := Hg7.out.fr2 hC8.fr (HE7.out.kl Hg7.out); have k78 := Hk7.out.fr hC8.fr (fun v L hk => HE7.out.kl hk))) | (go_at_call 12; have z2 := hkl; refine (same_rfq _ _ _ _ (hkk.keep hb11') z2).mono ?_; rintro e w12 ⟨rfl, hb12'⟩; have hb12 := hb11.trans (hb12'.mono hb11.size)) | (go_at_call 12; refine (same_rfq _ _ _ _ hko kg8).mono ?_; rintro e w9 ⟨rfl, hb9⟩) | (go_at_call 32; refine (akeys_any px _ (hE8.keep hb9)).mono ?_; rintro e w10 ⟨vk, rfl, hkk, hb10'⟩; have hb10 := hb9.trans (hb10'.mono hb9.size)) | (go_at_call 33; refine (arl_keys t _ _ _ _ _ HSO.out (k78.keep hb10)).mono ?_; rintro e w11 ⟨vl, rfl, hkl, hb11'⟩; have hb11 := hb10.trans (hb11'.mono hb10.size)) | (go_at_call 34; refine (aghosts_any px _ (hE8.keep hb12)).mono ?_; rintro e w14 ⟨rfl, hb14'⟩; have hb14 := hb12.trans (hb14'.mono hb12.size)) | (go_at_call 35; refine (arl_ghosts t _ _ _ _ _ HSO.out (k78.keep hb14)).mono ?_; rintro e w13 ⟨rfl, hb13'⟩; have hb13 := hb14.trans (hb13'.mono hb14.size)))
            have HE9 := Go.Lib.hid (hE8.keep hb13)
            have Hb9 := Go.Lib.hid (b78.keep hb13)
            have Hk9 := Go.Lib.hid (k78.keep hb13)
            have HC9 := Go.Lib.hid (ch8.below hb13)
            have hpp : p9 ≤ 28 := by have q1 := hp8; have q2 := HS.out.hi; omega
            clear hb9 hb10 hb11 hb12 hb13 hb10' hb11' hb12' hb13' hb14 hb14' hko hE8 hC8 hp8 b78 ch8 kg8 k78 hkk hkl z2
            go_wp2_with fail
            go_roundw
            case rel => exact ⟨j + 1, t, O9, p9, _, _, _, _, by omega, by go_num, HSO.out, hpp, HE9.out, Hb9.out, Hk9.out, HC9.out⟩
            case measure => simp [intOf]; omega
        rw [if_neg h2] at HD
        by_cases h3 : kd = 3
        · subst h3
          rw [if_pos rfl] at HD
          have q5 := HXC.out O w5 w5.drew HCH5.out (Below.refl _ _).drew
          have q51 := q5.2.1
          clear q5
          have c0 : w5.drew.cell? ⟨w3.heap.size, 0, none⟩ = some (.int .i64 s.c) := HB75.out.cell 0
          have c1 : w5.drew.cell? ⟨w3.heap.size, 1, none⟩ = some (.int .i64 s.p) := HB75.out.cell 1
          have c2 : w5.drew.cell? ⟨w3.heap.size, 2, none⟩ = some (.slice y0 yn0 yc0) := HB75.out.cell 2
          have c3 : w5.drew.cell? ⟨w3.heap.size, 3, none⟩ = some (.slice y1 yn1 yc1) := HB75.out.cell 3
          have c4 : w5.drew.cell? ⟨w3.heap.size, 4, none⟩ = some (.slice y2 yn2 yc2) := HB75.out.cell 4
          have c5 : w5.drew.cell? ⟨w3.heap.size, 5, none⟩ = some (.slice y3 yn3 yc3) := HB75.out.cell 5
          have HT := Go.Lib.hid (arl_drop s _ _ _ _ x.key w5.drew HS.out (HK75.out.keep (Below.refl _ _).drew))
          generalize dropA s x.key = t at *
          obtain ⟨g, hg⟩ : ∃ g : List Int, g = [] := ⟨_, rfl⟩
          rw [← hg] at HD
          have HG := Go.Lib.hid hg
          clear hg
          have HKX := Go.Lib.hid (fun W' (hb : Below w5.drew.heap.size w5.drew W') => (HXC.out O w5 W' HCH5.out ((Below.refl _ _).drew.trans hb)).2.1)
          have HKS := Go.Lib.hid (fun (w6 : World) (hb : Below w5.drew.heap.size w5.drew w6) (x0 x1 x2 x3 x4 x5 : Value) => show ((((((w6.setCell ⟨w3.heap.size, 0, none⟩ x0).setCell ⟨w3.heap.size, 1, none⟩ x1).setCell ⟨w3.heap.size, 2, none⟩ x2).setCell ⟨w3.heap.size, 3, none⟩ x3).setCell ⟨w3.heap.size, 4, none⟩ x4).setCell ⟨w3.heap.size, 5, none⟩ x5).cell? ⟨(ad.add (j * 3)).block, (ad.add (j * 3)).off + 1, none⟩ = some (.int .u64 x.key) from by
            have F : Fr (fun k => k = w3.heap.size) w6 ((((((w6.setCell ⟨w3.heap.size, 0, none⟩ x0).setCell ⟨w3.heap.size, 1, none⟩ x1).setCell ⟨w3.heap.size, 2, none⟩ x2).setCell ⟨w3.heap.size, 3, none⟩ x3).setCell ⟨w3.heap.size, 4, none⟩ x4).setCell ⟨w3.heap.size, 5, none⟩ x5) := ((((((Fr.refl (fun k => k = w3.heap.size) w6).setEq rfl _).setEq rfl _).setEq rfl _).setEq rfl _).setEq rfl _).setEq rfl _
            have q := HCH5.out.below ((Below.refl _ _).drew.trans hb)
            have q2 : Chg (fun _ => False) O w ((((((w6.setCell ⟨w3.heap.size, 0, none⟩ x0).setCell ⟨w3.heap.size, 1, none⟩ x1).setCell ⟨w3.heap.size, 2, none⟩ x2).setCell ⟨w3.heap.size, 3, none⟩ x3).setCell ⟨w3.heap.size, 4, none⟩ x4).setCell ⟨w3.heap.size, 5, none⟩ x5) := ⟨q.fr.trans F (fun i e => .inr (by show w.heap.size ≤ i; rw [e]; exact hwB)), q.own⟩
            exact (HXC.out O _ _ q2 (Below.refl _ _)).2.1)
          go_wp2_with fail
          refine wp_region_held_drew (S := fun W' => W'.cell? ⟨(ad.add (j * 3)).block, (ad.add (j * 3)).off + 1, none⟩ = some (.int .u64 x.key)) (by kernel_rfl) q51 (fun hHeld => ?_)
          refine wpAnyH_take (i := 1) (v := ?vb1) rfl (by kernel_rfl) (by kernel_rfl) (by kernel_rfl) (fun _ _ _ h => h) (Or.inl ⟨by rfl, ?hyb1⟩) (by assumption) ?restb1
          case hyb1 => intro w' hSw; (try dsimp only at hSw); go_simp; first | done | with_reducible rfl
          try simp only [Act.put, List.getElem_toArray, List.getElem_cons_succ, List.getElem_cons_zero, List.setIfInBounds_toArray, List.set_cons_zero, List.set_cons_succ]
          refine wpAnyH_take (i := 2) (v := ?vb2) rfl (by kernel_rfl) (by kernel_rfl) (by kernel_rfl) (fun _ _ _ h => h) (Or.inl ⟨by rfl, ?hyb2⟩) (by assumption) ?restb2
          case hyb2 => intro w' hSw; (try dsimp only at hSw); go_simp; first | done | with_reducible rfl
          try simp only [Act.put, List.getElem_toArray, List.getElem_cons_succ, List.getElem_cons_zero, List.setIfInBounds_toArray, List.set_cons_zero, List.set_cons_succ]
          refine wpAnyH_take (i := 3) (v := ?vb3) rfl (by kernel_rfl) (by kernel_rfl) (by kernel_rfl) (fun _ _ _ h => h) (Or.inl ⟨by rfl, ?hyb3⟩) (by assumption) ?restb3
          case hyb3 => intro w' hSw; (try dsimp only at hSw); go_simp; first | done | with_reducible rfl
          try simp only [Act.put, List.getElem_toArray, List.getElem_cons_succ, List.getElem_cons_zero, List.setIfInBounds_toArray, List.set_cons_zero, List.set_cons_succ]
          refine wpAnyH_take (i := 4) (v := ?vb4) rfl (by kernel_rfl) (by kernel_rfl) (by kernel_rfl) (fun _ _ _ h => h) (Or.inl ⟨by rfl, ?hyb4⟩) (by assumption) ?restb4
          case hyb4 => intro w' hSw; (try dsimp only at hSw); go_simp; first | done | with_reducible rfl
          try simp only [Act.put, List.getElem_toArray, List.getElem_cons_succ, List.getElem_cons_zero, List.setIfInBounds_toArray, List.set_cons_zero, List.set_cons_succ]
          refine wpAnyH_take (i := 5) (v := ?vb5) rfl (by kernel_rfl) (by kernel_rfl) (by kernel_rfl) (fun _ _ _ h => h) (Or.inl ⟨by rfl, ?hyb5⟩) (by assumption) ?restb5
          case hyb5 => intro w' hSw; (try dsimp only at hSw); go_simp; first | done | with_reducible rfl
          try simp only [Act.put, List.getElem_toArray, List.getElem_cons_succ, List.getElem_cons_zero, List.setIfInBounds_toArray, List.set_cons_zero, List.set_cons_succ]
          refine wpAnyH_ready (rs := [0]) (by kernel_rfl) (by simp) ?_
          refine AllReadyH.cons rfl (fun K hK => ?_) AllReadyH.nil
          go_simp
          refine hK.out _ _ (q51) (fun hHeld => ?_)
          clear hK K
          try simp only [Act.put, List.getElem_toArray, List.getElem_cons_succ, List.getElem_cons_zero, List.setIfInBounds_toArray, List.set_cons_zero, List.set_cons_succ]
          refine wpAnyH_ready (rs := [6]) (by kernel_rfl) (by simp) ?_
          refine AllReadyH.cons rfl (fun K hK => ?_) AllReadyH.nil
          go_simp
          refine HT.out.mono ?_
          rintro e w6 ⟨z0, zn0, zc0, z1, zn1, zc1, z2, zn2, zc2, z3, zn3, zc3, rfl, hk6, hb6⟩
          refine hK.out _ _ (HKX.out w6 hb6) (fun hHeld => ?_)
          clear hK K
          try simp only [Act.put, List.getElem_toArray, List.getElem_cons_succ, List.getElem_cons_zero, List.setIfInBounds_toArray, List.set_cons_zero, List.set_cons_succ]
          have qb := HB75.out.drew.keep hb6
          have r0 := qb.cell 0
          have r1 := qb.cell 1
          have r2 := qb.cell 2
          have r3 := qb.cell 3
          have r4 := qb.cell 4
          have r5 := qb.cell 5
          have f0 := qb.frozen 0
          have f1 := qb.frozen 1
          have f2 := qb.frozen 2
          have f3 := qb.frozen 3
          have f4 := qb.frozen 4
          have f5 := qb.frozen 5
          simp only [List.getElem?_cons_zero, List.getElem?_cons_succ] at r0 r1 r2 r3 r4 r5
          have rl := qb.lt
          refine wpAnyH_ready (rs := [7]) (by kernel_rfl) (by simp) ?_
          refine AllReadyH.cons rfl (fun K hK => ?_) AllReadyH.nil
          go_simp
          refine hK.out _ _ (HKS.out w6 hb6 _ _ _ _ _ _) (fun hHeld => ?_)
          clear hK K
          try simp only [Act.put, List.getElem_toArray, List.getElem_cons_succ, List.getElem_cons_zero, List.setIfInBounds_toArray, List.set_cons_zero, List.set_cons_succ]
          refine wpAnyH_done (by kernel_rfl) ?_ _
          have B56 : Below w5.heap.size w5 w6 := (Below.refl w5.heap.size w5).drew.trans hb6
          have kg6 : KL w6 (.slice none 0 0) g := by rw [HG.out]; exact KL.nil _
          have t7 := (HE5.out.keep B56).typ qb (by decide) (by decide)
          have E6 := HE5.out.keep B56
          obtain ⟨W7, hW7⟩ : ∃ W7, W7 = (((((w6.setCell ⟨w3.heap.size, 0, none⟩ (.int .i64 t.c)).setCell ⟨w3.heap.size, 1, none⟩ (.int .i64 t.p)).setCell ⟨w3.heap.size, 2, none⟩ (.slice z0 zn0 zc0)).setCell ⟨w3.heap.size, 3, none⟩ (.slice z1 zn1 zc1)).setCell ⟨w3.heap.size, 4, none⟩ (.slice z2 zn2 zc2)).setCell ⟨w3.heap.size, 5, none⟩ (.slice z3 zn3 zc3) := ⟨_, rfl⟩
          have F7 : Fr (fun k => k = w3.heap.size) w6 W7 := by rw [hW7]; exact ((((((Fr.refl (fun k => k = w3.heap.size) w6).setEq rfl _).setEq rfl _).setEq rfl _).setEq rfl _).setEq rfl _).setEq rfl _
          have b7 : Blk W7 w3.heap.size [.int .i64 t.c, .int .i64 t.p, .slice z0 zn0 zc0, .slice z1 zn1 zc1, .slice z2 zn2 zc2, .slice z3 zn3 zc3] 55 := by rw [hW7]; exact (((((qb.set 0 _).set 1 _).set 2 _).set 3 _).set 4 _).set 5 _
          have k7 : AQ W7 (.slice z0 zn0 zc0) (.slice z1 zn1 zc1) (.slice z2 zn2 zc2) (.slice z3 zn3 zc3) t := hk6.fr F7 (fun v L hk b hb e => hk.ne qb (by decide) b hb e)
          have g7 : KL W7 (.slice none 0 0) g := kg6.fr2 F7 (fun b hb e => kg6.ne qb (by decide) b hb e)
          have E7 : Aca W7 px O s p := E6.frame F7 (fun k hk e => t7 (by rw [← e]; exact hk))
          have ch7 : Chg (fun _ => False) O w W7 := by
            have q := HCH5.out.below B56
            exact ⟨q.fr.trans F7 (fun i e => .inr (by show w.heap.size ≤ i; rw [e]; exact hwB)), q.own⟩
          have Dr := (Below.refl W7.heap.size W7).drew
          have hso : AS.ok (doA s x).1 := doA_ok HS.out HXO.out
          have HDO := Go.Lib.hid (ado_any px s x W7.drew HXO.out HS.out (by omega) (E7.keep Dr))
          rw [HD.out] at HDO hso
          simp only at HDO hso
          have HSO := Go.Lib.hid hso
          have HS22 := Go.Lib.hid (fun (W8 W' : World) (O' : Nat → Prop) (b : Blk W8 w3.heap.size [.int .i64 t.c, .int .i64 t.p, .slice z0 zn0 zc0, .slice z1 zn1 zc1, .slice z2 zn2 zc2, .slice z3 zn3 zc3] 55) (ch : Chg (fun _ => False) O' w W8) (hb : Below W8.heap.size W8 W') => (have q := HXC.out O' W8 W' ch hb; have b' := b.keep hb; (⟨b'.cell 0, b'.cell 1, b'.cell 2, b'.cell 3, b'.cell 4, b'.cell 5, q.1, q.2.1, q.2.2⟩ : W'.cell? ⟨w3.heap.size, 0, none⟩ = some (.int .i64 t.c) ∧ W'.cell? ⟨w3.heap.size, 1, none⟩ = some (.int .i64 t.p) ∧ W'.cell? ⟨w3.heap.size, 2, none⟩ = some (.slice z0 zn0 zc0) ∧ W'.cell? ⟨w3.heap.size, 3, none⟩ = some (.slice z1 zn1 zc1) ∧ W'.cell? ⟨w3.heap.size, 4, none⟩ = some (.slice z2 zn2 zc2) ∧ W'.cell? ⟨w3.heap.size, 5, none⟩ = some (.slice z3 zn3 zc3) ∧ W'.cell? (ad.add (j * 3)) = some (.int .u8 x.kind) ∧ W'.cell? ⟨(ad.add (j * 3)).block, (ad.add (j * 3)).off + 1, none⟩ = some (.int .u64 x.key) ∧ W'.cell? ⟨(ad.add (j * 3)).block, (ad.add (j * 3)).off + 2, none⟩ = some (.int .u16 x.n))))
          have HS220 := Go.Lib.hid (HS22.out _ _ _ b7 ch7 Dr)
          have Hk7 := Go.Lib.hid (k7.keep Dr)
          have Hg7 := Go.Lib.hid (g7.keep Dr)
          have HE7 := Go.Lib.hid (E7.keep Dr)
          have HCH7 := Go.Lib.hid (ch7.below Dr)
          have HT7 := Go.Lib.hid ((E7.keep Dr).typ (b7.keep Dr) (by decide) (by decide))
          have HBd := Go.Lib.hid (b7.keep Dr)
          have l77 := b7.lt
          have hss := F7.size
          have hsz := B56.size
          have gab7 : (ad.add (j * 3)).block < W7.heap.size := by omega
          have HW7 := Go.Lib.hid hW7
          rw [← hW7]
          clear hW7 B56 E6 t7 F7 b7 k7 g7 E7 ch7 Dr hso
          clear hb6 hk6 kg6 qb r0 r1 r2 r3 r4 r5 f0 f1 f2 f3 f4 f5 rl c0 c1 c2 c3 c4 c5 q51
          go_wp2_with fail
          go_region_held3 (fun W' => W'.cell? ⟨w3.heap.size, 0, none⟩ = some (.int .i64 t.c) ∧ W'.cell? ⟨w3.heap.size, 1, none⟩ = some (.int .i64 t.p) ∧ W'.cell? ⟨w3.heap.size, 2, none⟩ = some (.slice z0 zn0 zc0) ∧ W'.cell? ⟨w3.heap.size, 3, none⟩ = some (.slice z1 zn1 zc1) ∧ W'.cell? ⟨w3.heap.size, 4, none⟩ = some (.slice z2 zn2 zc2) ∧ W'.cell? ⟨w3.heap.size, 5, none⟩ = some (.slice z3 zn3 zc3) ∧ W'.cell? (ad.add (j * 3)) = some (.int .u8 x.kind) ∧ W'.cell? ⟨(ad.add (j * 3)).block, (ad.add (j * 3)).off + 1, none⟩ = some (.int .u64 x.key) ∧ W'.cell? ⟨(ad.add (j * 3)).block, (ad.add (j * 3)).off + 2, none⟩ = some (.int .u16 x.n))
            (first | with_reducible exact HS22.out _ _ _ b78 ch8 hb13 | with_reducible exact HS22.out _ _ _ b78 ch8 hb14 | with_reducible exact HS22.out _ _ _ b78 ch8 hb12 | with_reducible exact HS22.out _ _ _ b78 ch8 hb11 | with_reducible exact HS22.out _ _ _ b78 ch8 hb10 | with_reducible exact HS22.out _ _ _ b78 ch8 hb9 | with_reducible exact HS22.out _ _ _ b78 ch8 (Below.refl _ _) | exact HS220.out)
            (first | (go_at_call 31; refine HDO.out.mono ?_; rintro e w8 ⟨vo, O9, p9, rfl, hko, hE8, hC8, hp8⟩; (have b78 := hC8.blk HT7.out HBd.out; have ch8 := HCH7.out.trans hC8; have kg8 := Hg7.out.fr2 hC8.fr (HE7.out.kl Hg7.out); have k78 := Hk7.out.fr hC8.fr (fun v L hk => HE7.out.kl hk))) | (go_at_call 12; have z2 := hkl; refine (same_rfq _ _ _ _ (hkk.keep hb11') z2).mono ?_; rintro e w12 ⟨rfl, hb12'⟩; have hb12 := hb11.trans (hb12'.mono hb11.size)) | (go_at_call 12; refine (same_rfq _ _ _ _ hko kg8).mono ?_; rintro e w9 ⟨rfl, hb9⟩) | (go_at_call 32; refine (akeys_any px _ (hE8.keep hb9)).mono ?_; rintro e w10 ⟨vk, rfl, hkk, hb10'⟩; have hb10 := hb9.trans (hb10'.mono hb9.size)) | (go_at_call 33; refine (arl_keys t _ _ _ _ _ HSO.out (k78.keep hb10)).mono ?_; rintro e w11 ⟨vl, rfl, hkl, hb11'⟩; have hb11 := hb10.trans (hb11'.mono hb10.size)) | (go_at_call 34; refine (aghosts_any px _ (hE8.keep hb12)).mono ?_; rintro e w14 ⟨rfl, hb14'⟩; have hb14 := hb12.trans (hb14'.mono hb12.size)) | (go_at_call 35; refine (arl_ghosts t _ _ _ _ _ HSO.out (k78.keep hb14)).mono ?_; rintro e w13 ⟨rfl, hb13'⟩; have hb13 := hb14.trans (hb13'.mono hb14.size)))
          have HE9 := Go.Lib.hid (hE8.keep hb13)
          have Hb9 := Go.Lib.hid (b78.keep hb13)
          have Hk9 := Go.Lib.hid (k78.keep hb13)
          have HC9 := Go.Lib.hid (ch8.below hb13)
          have hpp : p9 ≤ 28 := by have q1 := hp8; have q2 := HS.out.hi; omega
          clear hb9 hb10 hb11 hb12 hb13 hb10' hb11' hb12' hb13' hb14 hb14' hko hE8 hC8 hp8 b78 ch8 kg8 k78 hkk hkl z2
          go_wp2_with fail
          go_roundw
          case rel => exact ⟨j + 1, t, O9, p9, _, _, _, _, by omega, by go_num, HSO.out, hpp, HE9.out, Hb9.out, Hk9.out, HC9.out⟩
          case measure => simp [intOf]; omega
        rw [if_neg h3] at HD
        have S1 := fun W' (hb : Below w5.drew.heap.size w5.drew W') => (have q := HXC.out O w5 W' HCH5.out ((Below.refl _ _).drew.trans hb); have b := HB75.out.keep ((Below.refl _ _).drew.trans hb); (⟨b.cell 0, b.cell 1, b.cell 2, b.cell 3, b.cell 4, b.cell 5, q.1, q.2.1, q.2.2⟩ : W'.cell? ⟨w3.heap.size, 0, none⟩ = some (.int .i64 s.c) ∧ W'.cell? ⟨w3.heap.size, 1, none⟩ = some (.int .i64 s.p) ∧ W'.cell? ⟨w3.heap.size, 2, none⟩ = some (.slice y0 yn0 yc0) ∧ W'.cell? ⟨w3.heap.size, 3, none⟩ = some (.slice y1 yn1 yc1) ∧ W'.cell? ⟨w3.heap.size, 4, none⟩ = some (.slice y2 yn2 yc2) ∧ W'.cell? ⟨w3.heap.size, 5, none⟩ = some (.slice y3 yn3 yc3) ∧ W'.cell? (ad.add (j * 3)) = some (.int .u8 x.kind) ∧ W'.cell? ⟨(ad.add (j * 3)).block, (ad.add (j * 3)).off + 1, none⟩ = some (.int .u64 x.key) ∧ W'.cell? ⟨(ad.add (j * 3)).block, (ad.add (j * 3)).off + 2, none⟩ = some (.int .u16 x.n)))
        have S3 := fun W' u0 u1 u2 u3 u4 u5 (hb : Below w5.drew.heap.size w5.drew W') => S1 ((((((W'.setCell ⟨w5.heap.size, 0, none⟩ u0).setCell ⟨w5.heap.size, 1, none⟩ u1).setCell ⟨w5.heap.size, 2, none⟩ u2).setCell ⟨w5.heap.size, 3, none⟩ u3).setCell ⟨w5.heap.size, 4, none⟩ u4).setCell ⟨w5.heap.size, 5, none⟩ u5) (below_set (below_set (below_set (below_set (below_set (below_set hb (Nat.le_refl _) u0) (Nat.le_refl _) u1) (Nat.le_refl _) u2) (Nat.le_refl _) u3) (Nat.le_refl _) u4) (Nat.le_refl _) u5)
        have S3g := fun W' B u0 u1 u2 u3 u4 u5 (hb : Below w5.drew.heap.size w5.drew W') (hB : w5.drew.heap.size ≤ B) => S1 ((((((W'.setCell ⟨B, 0, none⟩ u0).setCell ⟨B, 1, none⟩ u1).setCell ⟨B, 2, none⟩ u2).setCell ⟨B, 3, none⟩ u3).setCell ⟨B, 4, none⟩ u4).setCell ⟨B, 5, none⟩ u5) (below_set (below_set (below_set (below_set (below_set (below_set hb (hB) u0) (hB) u1) (hB) u2) (hB) u3) (hB) u4) (hB) u5)
        have HS3g := Go.Lib.hid S3g
        have HS1 := Go.Lib.hid S1
        have HS3 := Go.Lib.hid S3
        have HS0 := Go.Lib.hid (S1 _ (Below.refl _ _))
        clear S1 S3 S3g
        have hsz0 := sizeF_in HXO.out.2.2.1
        have HRD := Go.Lib.hid (fun W (hb : Below w5.drew.heap.size w5.drew W) => arl_resize s _ _ _ _ (sizeF x.n) W HS.out (by rw [capF_id hsz0]; omega) (HK75.out.keep ((Below.refl _ _).drew.trans hb)))
        have HSZ := Go.Lib.hid (fun w => sizeof_any x.kind x.key x.n w HXO.out.2.2)
        clear hsz0
        obtain ⟨t, g, htg⟩ : ∃ t g, resizeA s (sizeF x.n) = (t, g) := ⟨_, _, rfl⟩
        rw [htg] at HD HRD
        clear htg
        simp only at HRD
        go_wp2_with fail
        go_region_held3 (fun W' => W'.cell? ⟨w3.heap.size, 0, none⟩ = some (.int .i64 s.c) ∧ W'.cell? ⟨w3.heap.size, 1, none⟩ = some (.int .i64 s.p) ∧ W'.cell? ⟨w3.heap.size, 2, none⟩ = some (.slice y0 yn0 yc0) ∧ W'.cell? ⟨w3.heap.size, 3, none⟩ = some (.slice y1 yn1 yc1) ∧ W'.cell? ⟨w3.heap.size, 4, none⟩ = some (.slice y2 yn2 yc2) ∧ W'.cell? ⟨w3.heap.size, 5, none⟩ = some (.slice y3 yn3 yc3) ∧ W'.cell? (ad.add (j * 3)) = some (.int .u8 x.kind) ∧ W'.cell? ⟨(ad.add (j * 3)).block, (ad.add (j * 3)).off + 1, none⟩ = some (.int .u64 x.key) ∧ W'.cell? ⟨(ad.add (j * 3)).block, (ad.add (j * 3)).off + 2, none⟩ = some (.int .u16 x.n))
          (first | with_reducible exact HS3.out _ _ _ _ _ _ _ hb6' | with_reducible exact HS3g.out _ _ _ _ _ _ _ _ hb6' hbz'.size | with_reducible exact HS1.out _ hb6' | with_reducible exact HS1.out _ (hb6'.alloc hb6'.size _) | with_reducible exact HS1.out _ hbz' | with_reducible exact HS1.out _ (hbz'.alloc hbz'.size _) | with_reducible exact HS1.out _ ((Below.refl _ _).alloc (Nat.le_refl _) _) | exact HS0.out)
          (first | (go_at_call 30; refine (HSZ.out _).mono ?_; rintro e wz ⟨rfl, hbz⟩; (have hbz' : Below w5.drew.heap.size w5.drew wz := by first | exact hbz | exact ((Below.refl _ _).alloc (Nat.le_refl _) _).trans (hbz.mono (by simp))); (try (have bz := (Blk.new0 w5.drew [.int .i64 0, .int .i64 0, .slice none 0 0, .slice none 0 0, .slice none 0 0, .slice none 0 0] 55).keep hbz))) | (go_at_call 29; refine (HRD.out _ (by first | exact hbz' | exact hbz'.alloc hbz'.size _)).mono ?_; rintro e w6 ⟨z0, zn0, zc0, z1, zn1, zc1, z2, zn2, zc2, z3, zn3, zc3, ag, ng, cg, rfl, hk6, hg6, hb6⟩; (have hb6' : Below w5.drew.heap.size w5.drew w6 := by first | exact hbz'.trans (hb6.mono hbz'.size) | exact (hbz'.alloc hbz'.size _).trans (hb6.mono (by have := hbz'.size; simp at *; omega))); (first | (have b10 := bz.keep hb6; have d0 := b10.cell 0; have d1 := b10.cell 1; have d2 := b10.cell 2; have d3 := b10.cell 3; have d4 := b10.cell 4; have d5 := b10.cell 5; have h0 := b10.frozen 0; have h1 := b10.frozen 1; have h2 := b10.frozen 2; have h3 := b10.frozen 3; have h4 := b10.frozen 4; have h5 := b10.frozen 5; simp only [List.getElem?_cons_zero, List.getElem?_cons_succ, World.size_drew] at d0 d1 d2 d3 d4 d5 h0 h1 h2 h3 h4 h5; have l10 := b10.lt; (try simp only [World.size_drew] at l10)) | (have b10 := (Blk.new0 wz [.int .i64 0, .int .i64 0, .slice none 0 0, .slice none 0 0, .slice none 0 0, .slice none 0 0] 55).keep hb6; have d0 := b10.cell 0; have d1 := b10.cell 1; have d2 := b10.cell 2; have d3 := b10.cell 3; have d4 := b10.cell 4; have d5 := b10.cell 5; have h0 := b10.frozen 0; have h1 := b10.frozen 1; have h2 := b10.frozen 2; have h3 := b10.frozen 3; have h4 := b10.frozen 4; have h5 := b10.frozen 5; simp only [List.getElem?_cons_zero, List.getElem?_cons_succ, World.size_drew] at d0 d1 d2 d3 d4 d5 h0 h1 h2 h3 h4 h5; have l10 := b10.lt; (try simp only [World.size_drew] at l10)) | skip)))
        · have B56 : Below w5.heap.size w5 w6 := (Below.refl _ _).drew.trans hb6'
          obtain ⟨W6, hW6⟩ : ∃ W6, W6 = w6.alloc (.cells #[.int .i64 t.c, .int .i64 t.p, .slice z0 zn0 zc0, .slice z1 zn1 zc1, .slice z2 zn2 zc2, .slice z3 zn3 zc3] 55) := ⟨_, rfl⟩
          have B66 : Below w6.heap.size w6 W6 := by rw [hW6]; exact (Below.refl _ _).alloc (Nat.le_refl _) _
          have c10 : Blk W6 w6.heap.size [.int .i64 t.c, .int .i64 t.p, .slice z0 zn0 zc0, .slice z1 zn1 zc1, .slice z2 zn2 zc2, .slice z3 zn3 zc3] 55 := by rw [hW6]; exact Blk.new0 w6 _ _
          have hB6 : Below w5.heap.size w5 W6 := B56.trans (B66.mono B56.size)
          have hBn : w3.heap.size < w6.heap.size := by have := B56.size; omega
          have k6 := hk6.keep B66
          have g6 := hg6.keep B66
          rw [← hW6]
          clear hW6 B66 B56 hk6 hg6 hb6 hb6' hbz hbz'
          generalize w6.heap.size = B10 at *
          have b7w := HB75.out.keep hB6
          have hne : w3.heap.size ≠ B10 := by omega
          have hne' : B10 ≠ w3.heap.size := hne.symm
          have r0 := b7w.cell 0
          have r1 := b7w.cell 1
          have r2 := b7w.cell 2
          have r3 := b7w.cell 3
          have r4 := b7w.cell 4
          have r5 := b7w.cell 5
          have f0 := b7w.frozen 0
          have f1 := b7w.frozen 1
          have f2 := b7w.frozen 2
          have f3 := b7w.frozen 3
          have f4 := b7w.frozen 4
          have f5 := b7w.frozen 5
          simp only [List.getElem?_cons_zero, List.getElem?_cons_succ] at r0 r1 r2 r3 r4 r5
          have l7 := b7w.lt
          have d0 := c10.cell 0
          have d1 := c10.cell 1
          have d2 := c10.cell 2
          have d3 := c10.cell 3
          have d4 := c10.cell 4
          have d5 := c10.cell 5
          have h0 := c10.frozen 0
          have h1 := c10.frozen 1
          have h2 := c10.frozen 2
          have h3 := c10.frozen 3
          have h4 := c10.frozen 4
          have h5 := c10.frozen 5
          simp only [List.getElem?_cons_zero, List.getElem?_cons_succ] at d0 d1 d2 d3 d4 d5
          have l10 := c10.lt
          have B56 := hB6
          have t7 := (HE5.out.keep B56).typ b7w (by decide) (by decide)
          have E6 := HE5.out.keep B56
          obtain ⟨W7, hW7⟩ : ∃ W7, W7 = (((((W6.setCell ⟨w3.heap.size, 0, none⟩ (.int .i64 t.c)).setCell ⟨w3.heap.size, 1, none⟩ (.int .i64 t.p)).setCell ⟨w3.heap.size, 2, none⟩ (.slice z0 zn0 zc0)).setCell ⟨w3.heap.size, 3, none⟩ (.slice z1 zn1 zc1)).setCell ⟨w3.heap.size, 4, none⟩ (.slice z2 zn2 zc2)).setCell ⟨w3.heap.size, 5, none⟩ (.slice z3 zn3 zc3) := ⟨_, rfl⟩
          have F7 : Fr (fun k => k = w3.heap.size) W6 W7 := by rw [hW7]; exact ((((((Fr.refl (fun k => k = w3.heap.size) W6).setEq rfl _).setEq rfl _).setEq rfl _).setEq rfl _).setEq rfl _).setEq rfl _
          have b7 : Blk W7 w3.heap.size [.int .i64 t.c, .int .i64 t.p, .slice z0 zn0 zc0, .slice z1 zn1 zc1, .slice z2 zn2 zc2, .slice z3 zn3 zc3] 55 := by rw [hW7]; exact (((((b7w.set 0 _).set 1 _).set 2 _).set 3 _).set 4 _).set 5 _
          have k7 : AQ W7 (.slice z0 zn0 zc0) (.slice z1 zn1 zc1) (.slice z2 zn2 zc2) (.slice z3 zn3 zc3) t := k6.fr F7 (fun v L hk b hb e => hk.ne b7w (by decide) b hb e)
          have g7 : KL W7 (.slice ag ng cg) g := g6.fr2 F7 (fun b hb e => g6.ne b7w (by decide) b hb e)
          have E7 : Aca W7 px O s p := E6.frame F7 (fun k hk e => t7 (by rw [← e]; exact hk))
          have ch7 : Chg (fun _ => False) O w W7 := by
            have q := HCH5.out.below B56
            exact ⟨q.fr.trans F7 (fun i e => .inr (by show w.heap.size ≤ i; rw [e]; exact hwB)), q.own⟩
          have Dr := (Below.refl W7.heap.size W7).drew
          have hso : AS.ok (doA s x).1 := doA_ok HS.out HXO.out
          have HDO := Go.Lib.hid (ado_any px s x W7.drew HXO.out HS.out (by omega) (E7.keep Dr))
          rw [HD.out] at HDO hso
          simp only at HDO hso
          have HSO := Go.Lib.hid hso
          have HS22 := Go.Lib.hid (fun (W8 W' : World) (O' : Nat → Prop) (b : Blk W8 w3.heap.size [.int .i64 t.c, .int .i64 t.p, .slice z0 zn0 zc0, .slice z1 zn1 zc1, .slice z2 zn2 zc2, .slice z3 zn3 zc3] 55) (ch : Chg (fun _ => False) O' w W8) (hb : Below W8.heap.size W8 W') => (have q := HXC.out O' W8 W' ch hb; have b' := b.keep hb; (⟨b'.cell 0, b'.cell 1, b'.cell 2, b'.cell 3, b'.cell 4, b'.cell 5, q.1, q.2.1, q.2.2⟩ : W'.cell? ⟨w3.heap.size, 0, none⟩ = some (.int .i64 t.c) ∧ W'.cell? ⟨w3.heap.size, 1, none⟩ = some (.int .i64 t.p) ∧ W'.cell? ⟨w3.heap.size, 2, none⟩ = some (.slice z0 zn0 zc0) ∧ W'.cell? ⟨w3.heap.size, 3, none⟩ = some (.slice z1 zn1 zc1) ∧ W'.cell? ⟨w3.heap.size, 4, none⟩ = some (.slice z2 zn2 zc2) ∧ W'.cell? ⟨w3.heap.size, 5, none⟩ = some (.slice z3 zn3 zc3) ∧ W'.cell? (ad.add (j * 3)) = some (.int .u8 x.kind) ∧ W'.cell? ⟨(ad.add (j * 3)).block, (ad.add (j * 3)).off + 1, none⟩ = some (.int .u64 x.key) ∧ W'.cell? ⟨(ad.add (j * 3)).block, (ad.add (j * 3)).off + 2, none⟩ = some (.int .u16 x.n))))
          have HS220 := Go.Lib.hid (HS22.out _ _ _ b7 ch7 Dr)
          have Hk7 := Go.Lib.hid (k7.keep Dr)
          have Hg7 := Go.Lib.hid (g7.keep Dr)
          have HE7 := Go.Lib.hid (E7.keep Dr)
          have HCH7 := Go.Lib.hid (ch7.below Dr)
          have HT7 := Go.Lib.hid ((E7.keep Dr).typ (b7.keep Dr) (by decide) (by decide))
          have HBd := Go.Lib.hid (b7.keep Dr)
          have l77 := b7.lt
          have hss := F7.size
          have hsz := B56.size
          have gab7 : (ad.add (j * 3)).block < W7.heap.size := by omega
          have HW7 := Go.Lib.hid hW7
          clear hW7 B56 E6 t7 F7 b7 k7 g7 E7 ch7 Dr hso
          clear hB6 b7w k6 g6 c10
          go_wp2_with fail
          rw [← HW7.out]
          clear r0 r1 r2 r3 r4 r5 f0 f1 f2 f3 f4 f5 d0 d1 d2 d3 d4 d5 h0 h1 h2 h3 h4 h5 l7 l10
          go_region_held3 (fun W' => W'.cell? ⟨w3.heap.size, 0, none⟩ = some (.int .i64 t.c) ∧ W'.cell? ⟨w3.heap.size, 1, none⟩ = some (.int .i64 t.p) ∧ W'.cell? ⟨w3.heap.size, 2, none⟩ = some (.slice z0 zn0 zc0) ∧ W'.cell? ⟨w3.heap.size, 3, none⟩ = some (.slice z1 zn1 zc1) ∧ W'.cell? ⟨w3.heap.size, 4, none⟩ = some (.slice z2 zn2 zc2) ∧ W'.cell? ⟨w3.heap.size, 5, none⟩ = some (.slice z3 zn3 zc3) ∧ W'.cell? (ad.add (j * 3)) = some (.int .u8 x.kind) ∧ W'.cell? ⟨(ad.add (j * 3)).block, (ad.add (j * 3)).off + 1, none⟩ = some (.int .u64 x.key) ∧ W'.cell? ⟨(ad.add (j * 3)).block, (ad.add (j * 3)).off + 2, none⟩ = some (.int .u16 x.n))
            (first | with_reducible exact HS22.out _ _ _ b78 ch8 hb13 | with_reducible exact HS22.out _ _ _ b78 ch8 hb14 | with_reducible exact HS22.out _ _ _ b78 ch8 hb12 | with_reducible exact HS22.out _ _ _ b78 ch8 hb11 | with_reducible exact HS22.out _ _ _ b78 ch8 hb10 | with_reducible exact HS22.out _ _ _ b78 ch8 hb9 | with_reducible exact HS22.out _ _ _ b78 ch8 (Below.refl _ _) | exact HS220.out)
            (first | (go_at_call 31; refine HDO.out.mono ?_; rintro e w8 ⟨vo, O9, p9, rfl, hko, hE8, hC8, hp8⟩; (have b78 := hC8.blk HT7.out HBd.out; have ch8 := HCH7.out.trans hC8; have kg8 := Hg7.out.fr2 hC8.fr (HE7.out.kl Hg7.out); have k78 := Hk7.out.fr hC8.fr (fun v L hk => HE7.out.kl hk))) | (go_at_call 12; have z2 := hkl; refine (same_rfq _ _ _ _ (hkk.keep hb11') z2).mono ?_; rintro e w12 ⟨rfl, hb12'⟩; have hb12 := hb11.trans (hb12'.mono hb11.size)) | (go_at_call 12; refine (same_rfq _ _ _ _ hko kg8).mono ?_; rintro e w9 ⟨rfl, hb9⟩) | (go_at_call 32; refine (akeys_any px _ (hE8.keep hb9)).mono ?_; rintro e w10 ⟨vk, rfl, hkk, hb10'⟩; have hb10 := hb9.trans (hb10'.mono hb9.size)) | (go_at_call 33; refine (arl_keys t _ _ _ _ _ HSO.out (k78.keep hb10)).mono ?_; rintro e w11 ⟨vl, rfl, hkl, hb11'⟩; have hb11 := hb10.trans (hb11'.mono hb10.size)) | (go_at_call 34; refine (aghosts_any px _ (hE8.keep hb12)).mono ?_; rintro e w14 ⟨rfl, hb14'⟩; have hb14 := hb12.trans (hb14'.mono hb12.size)) | (go_at_call 35; refine (arl_ghosts t _ _ _ _ _ HSO.out (k78.keep hb14)).mono ?_; rintro e w13 ⟨rfl, hb13'⟩; have hb13 := hb14.trans (hb13'.mono hb14.size)))
          have HE9 := Go.Lib.hid (hE8.keep hb13)
          have Hb9 := Go.Lib.hid (b78.keep hb13)
          have Hk9 := Go.Lib.hid (k78.keep hb13)
          have HC9 := Go.Lib.hid (ch8.below hb13)
          have hpp : p9 ≤ 28 := by have q1 := hp8; have q2 := HS.out.hi; omega
          clear hb9 hb10 hb11 hb12 hb13 hb10' hb11' hb12' hb13' hb14 hb14' hko hE8 hC8 hp8 b78 ch8 kg8 k78 hkk hkl z2
          go_wp2_with fail
          go_roundw
          case rel => exact ⟨j + 1, t, O9, p9, _, _, _, _, by omega, by go_num, HSO.out, hpp, HE9.out, Hb9.out, Hk9.out, HC9.out⟩
          case measure => simp [intOf]; omega
        · have B56 : Below w5.heap.size w5 w6 := (Below.refl _ _).drew.trans hb6'
          obtain ⟨W6, hW6⟩ : ∃ W6, W6 = (((((w6.setCell ⟨wz.heap.size, 0, none⟩ (.int .i64 t.c)).setCell ⟨wz.heap.size, 1, none⟩ (.int .i64 t.p)).setCell ⟨wz.heap.size, 2, none⟩ (.slice z0 zn0 zc0)).setCell ⟨wz.heap.size, 3, none⟩ (.slice z1 zn1 zc1)).setCell ⟨wz.heap.size, 4, none⟩ (.slice z2 zn2 zc2)).setCell ⟨wz.heap.size, 5, none⟩ (.slice z3 zn3 zc3) := ⟨_, rfl⟩
          have F6 : Fr (fun k => k = wz.heap.size) w6 W6 := by rw [hW6]; exact ((((((Fr.refl (fun k => k = wz.heap.size) w6).setEq rfl _).setEq rfl _).setEq rfl _).setEq rfl _).setEq rfl _).setEq rfl _
          have hB6 : Below w5.heap.size w5 W6 := by rw [hW6]; exact (below_set (below_set (below_set (below_set (below_set (below_set B56 (hbz'.size) _) (hbz'.size) _) (hbz'.size) _) (hbz'.size) _) (hbz'.size) _) (hbz'.size) _)
          have c10 : Blk W6 (wz.heap.size) [.int .i64 t.c, .int .i64 t.p, .slice z0 zn0 zc0, .slice z1 zn1 zc1, .slice z2 zn2 zc2, .slice z3 zn3 zc3] 55 := by rw [hW6]; exact (((((b10.set 0 _).set 1 _).set 2 _).set 3 _).set 4 _).set 5 _
          have k6 := hk6.fr F6 (fun v L hk b hb e => hk.ne b10 (by decide) b hb e)
          have g6 := hg6.fr2 F6 (fun b hb e => hg6.ne b10 (by decide) b hb e)
          have hBn : w3.heap.size < wz.heap.size := by have q : w5.heap.size ≤ wz.heap.size := hbz'.size; omega
          rw [← hW6]
          clear hW6 F6 B56 hk6 hg6 hb6 hb6' hbz hbz' b10 d0 d1 d2 d3 d4 d5 h0 h1 h2 h3 h4 h5 l10
          generalize hBB : wz.heap.size = B10 at c10 hBn ⊢
          clear hBB
          have b7w := HB75.out.keep hB6
          have hne : w3.heap.size ≠ B10 := by omega
          have hne' : B10 ≠ w3.heap.size := hne.symm
          have r0 := b7w.cell 0
          have r1 := b7w.cell 1
          have r2 := b7w.cell 2
          have r3 := b7w.cell 3
          have r4 := b7w.cell 4
          have r5 := b7w.cell 5
          have f0 := b7w.frozen 0
          have f1 := b7w.frozen 1
          have f2 := b7w.frozen 2
          have f3 := b7w.frozen 3
          have f4 := b7w.frozen 4
          have f5 := b7w.frozen 5
          simp only [List.getElem?_cons_zero, List.getElem?_cons_succ] at r0 r1 r2 r3 r4 r5
          have l7 := b7w.lt
          have d0 := c10.cell 0
          have d1 := c10.cell 1
          have d2 := c10.cell 2
          have d3 := c10.cell 3
          have d4 := c10.cell 4
          have d5 := c10.cell 5
          have h0 := c10.frozen 0
          have h1 := c10.frozen 1
          have h2 := c10.frozen 2
          have h3 := c10.frozen 3
          have h4 := c10.frozen 4
          have h5 := c10.frozen 5
          simp only [List.getElem?_cons_zero, List.getElem?_cons_succ] at d0 d1 d2 d3 d4 d5
          have l10 := c10.lt
          have B56 := hB6
          have t7 := (HE5.out.keep B56).typ b7w (by decide) (by decide)
          have E6 := HE5.out.keep B56
          obtain ⟨W7, hW7⟩ : ∃ W7, W7 = (((((W6.setCell ⟨w3.heap.size, 0, none⟩ (.int .i64 t.c)).setCell ⟨w3.heap.size, 1, none⟩ (.int .i64 t.p)).setCell ⟨w3.heap.size, 2, none⟩ (.slice z0 zn0 zc0)).setCell ⟨w3.heap.size, 3, none⟩ (.slice z1 zn1 zc1)).setCell ⟨w3.heap.size, 4, none⟩ (.slice z2 zn2 zc2)).setCell ⟨w3.heap.size, 5, none⟩ (.slice z3 zn3 zc3) := ⟨_, rfl⟩
          have F7 : Fr (fun k => k = w3.heap.size) W6 W7 := by rw [hW7]; exact ((((((Fr.refl (fun k => k = w3.heap.size) W6).setEq rfl _).setEq rfl _).setEq rfl _).setEq rfl _).setEq rfl _).setEq rfl _
          have b7 : Blk W7 w3.heap.size [.int .i64 t.c, .int .i64 t.p, .slice z0 zn0 zc0, .slice z1 zn1 zc1, .slice z2 zn2 zc2, .slice z3 zn3 zc3] 55 := by rw [hW7]; exact (((((b7w.set 0 _).set 1 _).set 2 _).set 3 _).set 4 _).set 5 _
          have k7 : AQ W7 (.slice z0 zn0 zc0) (.slice z1 zn1 zc1) (.slice z2 zn2 zc2) (.slice z3 zn3 zc3) t := k6.fr F7 (fun v L hk b hb e => hk.ne b7w (by decide) b hb e)
          have g7 : KL W7 (.slice ag ng cg) g := g6.fr2 F7 (fun b hb e => g6.ne b7w (by decide) b hb e)
          have E7 : Aca W7 px O s p := E6.frame F7 (fun k hk e => t7 (by rw [← e]; exact hk))
          have ch7 : Chg (fun _ => False) O w W7 := by
            have q := HCH5.out.below B56
            exact ⟨q.fr.trans F7 (fun i e => .inr (by show w.heap.size ≤ i; rw [e]; exact hwB)), q.own⟩
          have Dr := (Below.refl W7.heap.size W7).drew
          have hso : AS.ok (doA s x).1 := doA_ok HS.out HXO.out
          have HDO := Go.Lib.hid (ado_any px s x W7.drew HXO.out HS.out (by omega) (E7.keep Dr))
          rw [HD.out] at HDO hso
          simp only at HDO hso
          have HSO := Go.Lib.hid hso
          have HS22 := Go.Lib.hid (fun (W8 W' : World) (O' : Nat → Prop) (b : Blk W8 w3.heap.size [.int .i64 t.c, .int .i64 t.p, .slice z0 zn0 zc0, .slice z1 zn1 zc1, .slice z2 zn2 zc2, .slice z3 zn3 zc3] 55) (ch : Chg (fun _ => False) O' w W8) (hb : Below W8.heap.size W8 W') => (have q := HXC.out O' W8 W' ch hb; have b' := b.keep hb; (⟨b'.cell 0, b'.cell 1, b'.cell 2, b'.cell 3, b'.cell 4, b'.cell 5, q.1, q.2.1, q.2.2⟩ : W'.cell? ⟨w3.heap.size, 0, none⟩ = some (.int .i64 t.c) ∧ W'.cell? ⟨w3.heap.size, 1, none⟩ = some (.int .i64 t.p) ∧ W'.cell? ⟨w3.heap.size, 2, none⟩ = some (.slice z0 zn0 zc0) ∧ W'.cell? ⟨w3.heap.size, 3, none⟩ = some (.slice z1 zn1 zc1) ∧ W'.cell? ⟨w3.heap.size, 4, none⟩ = some (.slice z2 zn2 zc2) ∧ W'.cell? ⟨w3.heap.size, 5, none⟩ = some (.slice z3 zn3 zc3) ∧ W'.cell? (ad.add (j * 3)) = some (.int .u8 x.kind) ∧ W'.cell? ⟨(ad.add (j * 3)).block, (ad.add (j * 3)).off + 1, none⟩ = some (.int .u64 x.key) ∧ W'.cell? ⟨(ad.add (j * 3)).block, (ad.add (j * 3)).off + 2, none⟩ = some (.int .u16 x.n))))
          have HS220 := Go.Lib.hid (HS22.out _ _ _ b7 ch7 Dr)
          have Hk7 := Go.Lib.hid (k7.keep Dr)
          have Hg7 := Go.Lib.hid (g7.keep Dr)
          have HE7 := Go.Lib.hid (E7.keep Dr)
          have HCH7 := Go.Lib.hid (ch7.below Dr)
          have HT7 := Go.Lib.hid ((E7.keep Dr).typ (b7.keep Dr) (by decide) (by decide))
          have HBd := Go.Lib.hid (b7.keep Dr)
          have l77 := b7.lt
          have hss := F7.size
          have hsz := B56.size
          have gab7 : (ad.add (j * 3)).block < W7.heap.size := by omega
          have HW7 := Go.Lib.hid hW7
          clear hW7 B56 E6 t7 F7 b7 k7 g7 E7 ch7 Dr hso
          clear hB6 b7w k6 g6 c10
          go_wp2_with fail
          rw [← HW7.out]
          clear r0 r1 r2 r3 r4 r5 f0 f1 f2 f3 f4 f5 d0 d1 d2 d3 d4 d5 h0 h1 h2 h3 h4 h5 l7 l10
          go_region_held3 (fun W' => W'.cell? ⟨w3.heap.size, 0, none⟩ = some (.int .i64 t.c) ∧ W'.cell? ⟨w3.heap.size, 1, none⟩ = some (.int .i64 t.p) ∧ W'.cell? ⟨w3.heap.size, 2, none⟩ = some (.slice z0 zn0 zc0) ∧ W'.cell? ⟨w3.heap.size, 3, none⟩ = some (.slice z1 zn1 zc1) ∧ W'.cell? ⟨w3.heap.size, 4, none⟩ = some (.slice z2 zn2 zc2) ∧ W'.cell? ⟨w3.heap.size, 5, none⟩ = some (.slice z3 zn3 zc3) ∧ W'.cell? (ad.add (j * 3)) = some (.int .u8 x.kind) ∧ W'.cell? ⟨(ad.add (j * 3)).block, (ad.add (j * 3)).off + 1, none⟩ = some (.int .u64 x.key) ∧ W'.cell? ⟨(ad.add (j * 3)).block, (ad.add (j * 3)).off + 2, none⟩ = some (.int .u16 x.n))
            (first | with_reducible exact HS22.out _ _ _ b78 ch8 hb13 | with_reducible exact HS22.out _ _ _ b78 ch8 hb14 | with_reducible exact HS22.out _ _ _ b78 ch8 hb12 | with_reducible exact HS22.out _ _ _ b78 ch8 hb11 | with_reducible exact HS22.out _ _ _ b78 ch8 hb10 | with_reducible exact HS22.out _ _ _ b78 ch8 hb9 | with_reducible exact HS22.out _ _ _ b78 ch8 (Below.refl _ _) | exact HS220.out)
            (first | (go_at_call 31; refine HDO.out.mono ?_; rintro e w8 ⟨vo, O9, p9, rfl, hko, hE8, hC8, hp8⟩; (have b78 := hC8.blk HT7.out HBd.out; have ch8 := HCH7.out.trans hC8; have kg8 := Hg7.out.fr2 hC8.fr (HE7.out.kl Hg7.out); have k78 := Hk7.out.fr hC8.fr (fun v L hk => HE7.out.kl hk))) | (go_at_call 12; have z2 := hkl; refine (same_rfq _ _ _ _ (hkk.keep hb11') z2).mono ?_; rintro e w12 ⟨rfl, hb12'⟩; have hb12 := hb11.trans (hb12'.mono hb11.size)) | (go_at_call 12; refine (same_rfq _ _ _ _ hko kg8).mono ?_; rintro e w9 ⟨rfl, hb9⟩) | (go_at_call 32; refine (akeys_any px _ (hE8.keep hb9)).mono ?_; rintro e w10 ⟨vk, rfl, hkk, hb10'⟩; have hb10 := hb9.trans (hb10'.mono hb9.size)) | (go_at_call 33; refine (arl_keys t _ _ _ _ _ HSO.out (k78.keep hb10)).mono ?_; rintro e w11 ⟨vl, rfl, hkl, hb11'⟩; have hb11 := hb10.trans (hb11'.mono hb10.size)) | (go_at_call 34; refine (aghosts_any px _ (hE8.keep hb12)).mono ?_; rintro e w14 ⟨rfl, hb14'⟩; have hb14 := hb12.trans (hb14'.mono hb12.size)) | (go_at_call 35; refine (arl_ghosts t _ _ _ _ _ HSO.out (k78.keep hb14)).mono ?_; rintro e w13 ⟨rfl, hb13'⟩; have hb13 := hb14.trans (hb13'.mono hb14.size)))
          have HE9 := Go.Lib.hid (hE8.keep hb13)
          have Hb9 := Go.Lib.hid (b78.keep hb13)
          have Hk9 := Go.Lib.hid (k78.keep hb13)
          have HC9 := Go.Lib.hid (ch8.below hb13)
          have hpp : p9 ≤ 28 := by have q1 := hp8; have q2 := HS.out.hi; omega
          clear hb9 hb10 hb11 hb12 hb13 hb10' hb11' hb12' hb13' hb14 hb14' hko hE8 hC8 hp8 b78 ch8 kg8 k78 hkk hkl z2
          go_wp2_with fail
          go_roundw
          case rel => exact ⟨j + 1, t, O9, p9, _, _, _, _, by omega, by go_num, HSO.out, hpp, HE9.out, Hb9.out, Hk9.out, HC9.out⟩
          case measure => simp [intOf]; omega
        · have B56 : Below w5.heap.size w5 w6 := (Below.refl _ _).drew.trans hb6'
          obtain ⟨W6, hW6⟩ : ∃ W6, W6 = (((((w6.setCell ⟨w5.heap.size, 0, none⟩ (.int .i64 t.c)).setCell ⟨w5.heap.size, 1, none⟩ (.int .i64 t.p)).setCell ⟨w5.heap.size, 2, none⟩ (.slice z0 zn0 zc0)).setCell ⟨w5.heap.size, 3, none⟩ (.slice z1 zn1 zc1)).setCell ⟨w5.heap.size, 4, none⟩ (.slice z2 zn2 zc2)).setCell ⟨w5.heap.size, 5, none⟩ (.slice z3 zn3 zc3) := ⟨_, rfl⟩
          have F6 : Fr (fun k => k = w5.heap.size) w6 W6 := by rw [hW6]; exact ((((((Fr.refl (fun k => k = w5.heap.size) w6).setEq rfl _).setEq rfl _).setEq rfl _).setEq rfl _).setEq rfl _).setEq rfl _
          have hB6 : Below w5.heap.size w5 W6 := by rw [hW6]; exact (below_set (below_set (below_set (below_set (below_set (below_set B56 (Nat.le_refl _) _) (Nat.le_refl _) _) (Nat.le_refl _) _) (Nat.le_refl _) _) (Nat.le_refl _) _) (Nat.le_refl _) _)
          have c10 : Blk W6 (w5.heap.size) [.int .i64 t.c, .int .i64 t.p, .slice z0 zn0 zc0, .slice z1 zn1 zc1, .slice z2 zn2 zc2, .slice z3 zn3 zc3] 55 := by rw [hW6]; exact (((((b10.set 0 _).set 1 _).set 2 _).set 3 _).set 4 _).set 5 _
          have k6 := hk6.fr F6 (fun v L hk b hb e => hk.ne b10 (by decide) b hb e)
          have g6 := hg6.fr2 F6 (fun b hb e => hg6.ne b10 (by decide) b hb e)
          have hBn : w3.heap.size < w5.heap.size := by exact l75
          rw [← hW6]
          clear hW6 F6 B56 hk6 hg6 hb6 hb6' hbz hbz' bz b10 d0 d1 d2 d3 d4 d5 h0 h1 h2 h3 h4 h5 l10
          generalize hBB : w5.heap.size = B10 at c10 hBn ⊢
          clear hBB
          have b7w := HB75.out.keep hB6
          have hne : w3.heap.size ≠ B10 := by omega
          have hne' : B10 ≠ w3.heap.size := hne.symm
          have r0 := b7w.cell 0
          have r1 := b7w.cell 1
          have r2 := b7w.cell 2
          have r3 := b7w.cell 3
          have r4 := b7w.cell 4
          have r5 := b7w.cell 5
          have f0 := b7w.frozen 0
          have f1 := b7w.frozen 1
          have f2 := b7w.frozen 2
          have f3 := b7w.frozen 3
          have f4 := b7w.frozen 4
          have f5 := b7w.frozen 5
          simp only [List.getElem?_cons_zero, List.getElem?_cons_succ] at r0 r1 r2 r3 r4 r5
          have l7 := b7w.lt
          have d0 := c10.cell 0
          have d1 := c10.cell 1
          have d2 := c10.cell 2
          have d3 := c10.cell 3
          have d4 := c10.cell 4
          have d5 := c10.cell 5
          have h0 := c10.frozen 0
          have h1 := c10.frozen 1
          have h2 := c10.frozen 2
          have h3 := c10.frozen 3
          have h4 := c10.frozen 4
          have h5 := c10.frozen 5
          simp only [List.getElem?_cons_zero, List.getElem?_cons_succ] at d0 d1 d2 d3 d4 d5
          have l10 := c10.lt
          have B56 := hB6
          have t7 := (HE5.out.keep B56).typ b7w (by decide) (by decide)
          have E6 := HE5.out.keep B56
          obtain ⟨W7, hW7⟩ : ∃ W7, W7 = (((((W6.setCell ⟨w3.heap.size, 0, none⟩ (.int .i64 t.c)).setCell ⟨w3.heap.size, 1, none⟩ (.int .i64 t.p)).setCell ⟨w3.heap.size, 2, none⟩ (.slice z0 zn0 zc0)).setCell ⟨w3.heap.size, 3, none⟩ (.slice z1 zn1 zc1)).setCell ⟨w3.heap.size, 4, none⟩ (.slice z2 zn2 zc2)).setCell ⟨w3.heap.size, 5, none⟩ (.slice z3 zn3 zc3) := ⟨_, rfl⟩
          have F7 : Fr (fun k => k = w3.heap.size) W6 W7 := by rw [hW7]; exact ((((((Fr.refl (fun k => k = w3.heap.size) W6).setEq rfl _).setEq rfl _).setEq rfl _).setEq rfl _).setEq rfl _).setEq rfl _
          have b7 : Blk W7 w3.heap.size [.int .i64 t.c, .int .i64 t.p, .slice z0 zn0 zc0, .slice z1 zn1 zc1, .slice z2 zn2 zc2, .slice z3 zn3 zc3] 55 := by rw [hW7]; exact (((((b7w.set 0 _).set 1 _).set 2 _).set 3 _).set 4 _).set 5 _
          have k7 : AQ W7 (.slice z0 zn0 zc0) (.slice z1 zn1 zc1) (.slice z2 zn2 zc2) (.slice z3 zn3 zc3) t := k6.fr F7 (fun v L hk b hb e => hk.ne b7w (by decide) b hb e)
          have g7 : KL W7 (.slice ag ng cg) g := g6.fr2 F7 (fun b hb e => g6.ne b7w (by decide) b hb e)
          have E7 : Aca W7 px O s p := E6.frame F7 (fun k hk e => t7 (by rw [← e]; exact hk))
          have ch7 : Chg (fun _ => False) O w W7 := by
            have q := HCH5.out.below B56
            exact ⟨q.fr.trans F7 (fun i e => .inr (by show w.heap.size ≤ i; rw [e]; exact hwB)), q.own⟩
          have Dr := (Below.refl W7.heap.size W7).drew
          have hso : AS.ok (doA s x).1 := doA_ok HS.out HXO.out
          have HDO := Go.Lib.hid (ado_any px s x W7.drew HXO.out HS.out (by omega) (E7.keep Dr))
          rw [HD.out] at HDO hso
          simp only at HDO hso
          have HSO := Go.Lib.hid hso
          have HS22 := Go.Lib.hid (fun (W8 W' : World) (O' : Nat → Prop) (b : Blk W8 w3.heap.size [.int .i64 t.c, .int .i64 t.p, .slice z0 zn0 zc0, .slice z1 zn1 zc1, .slice z2 zn2 zc2, .slice z3 zn3 zc3] 55) (ch : Chg (fun _ => False) O' w W8) (hb : Below W8.heap.size W8 W') => (have q := HXC.out O' W8 W' ch hb; have b' := b.keep hb; (⟨b'.cell 0, b'.cell 1, b'.cell 2, b'.cell 3, b'.cell 4, b'.cell 5, q.1, q.2.1, q.2.2⟩ : W'.cell? ⟨w3.heap.size, 0, none⟩ = some (.int .i64 t.c) ∧ W'.cell? ⟨w3.heap.size, 1, none⟩ = some (.int .i64 t.p) ∧ W'.cell? ⟨w3.heap.size, 2, none⟩ = some (.slice z0 zn0 zc0) ∧ W'.cell? ⟨w3.heap.size, 3, none⟩ = some (.slice z1 zn1 zc1) ∧ W'.cell? ⟨w3.heap.size, 4, none⟩ = some (.slice z2 zn2 zc2) ∧ W'.cell? ⟨w3.heap.size, 5, none⟩ = some (.slice z3 zn3 zc3) ∧ W'.cell? (ad.add (j * 3)) = some (.int .u8 x.kind) ∧ W'.cell? ⟨(ad.add (j * 3)).block, (ad.add (j * 3)).off + 1, none⟩ = some (.int .u64 x.key) ∧ W'.cell? ⟨(ad.add (j * 3)).block, (ad.add (j * 3)).off + 2, none⟩ = some (.int .u16 x.n))))
          have HS220 := Go.Lib.hid (HS22.out _ _ _ b7 ch7 Dr)
          have Hk7 := Go.Lib.hid (k7.keep Dr)
          have Hg7 := Go.Lib.hid (g7.keep Dr)
          have HE7 := Go.Lib.hid (E7.keep Dr)
          have HCH7 := Go.Lib.hid (ch7.below Dr)
          have HT7 := Go.Lib.hid ((E7.keep Dr).typ (b7.keep Dr) (by decide) (by decide))
          have HBd := Go.Lib.hid (b7.keep Dr)
          have l77 := b7.lt
          have hss := F7.size
          have hsz := B56.size
          have gab7 : (ad.add (j * 3)).block < W7.heap.size := by omega
          have HW7 := Go.Lib.hid hW7
          clear hW7 B56 E6 t7 F7 b7 k7 g7 E7 ch7 Dr hso
          clear hB6 b7w k6 g6 c10
          go_wp2_with fail
          rw [← HW7.out]
          clear r0 r1 r2 r3 r4 r5 f0 f1 f2 f3 f4 f5 d0 d1 d2 d3 d4 d5 h0 h1 h2 h3 h4 h5 l7 l10
          go_region_held3 (fun W' => W'.cell? ⟨w3.heap.size, 0, none⟩ = some (.int .i64 t.c) ∧ W'.cell? ⟨w3.heap.size, 1, none⟩ = some (.int .i64 t.p) ∧ W'.cell? ⟨w3.heap.size, 2, none⟩ = some (.slice z0 zn0 zc0) ∧ W'.cell? ⟨w3.heap.size, 3, none⟩ = some (.slice z1 zn1 zc1) ∧ W'.cell? ⟨w3.heap.size, 4, none⟩ = some (.slice z2 zn2 zc2) ∧ W'.cell? ⟨w3.heap.size, 5, none⟩ = some (.slice z3 zn3 zc3) ∧ W'.cell? (ad.add (j * 3)) = some (.int .u8 x.kind) ∧ W'.cell? ⟨(ad.add (j * 3)).block, (ad.add (j * 3)).off + 1, none⟩ = some (.int .u64 x.key) ∧ W'.cell? ⟨(ad.add (j * 3)).block, (ad.add (j * 3)).off + 2, none⟩ = some (.int .u16 x.n))
            (first | with_reducible exact HS22.out _ _ _ b78 ch8 hb13 | with_reducible exact HS22.out _ _ _ b78 ch8 hb14 | with_reducible exact HS22.out _ _ _ b78 ch8 hb12 | with_reducible exact HS22.out _ _ _ b78 ch8 hb11 | with_reducible exact HS22.out _ _ _ b78 ch8 hb10 | with_reducible exact HS22.out _ _ _ b78 ch8 hb9 | with_reducible exact HS22.out _ _ _ b78 ch8 (Below.refl _ _) | exact HS220.out)
            (first | (go_at_call 31; refine HDO.out.mono ?_; rintro e w8 ⟨vo, O9, p9, rfl, hko, hE8, hC8, hp8⟩; (have b78 := hC8.blk HT7.out HBd.out; have ch8 := HCH7.out.trans hC8; have kg8 := Hg7.out.fr2 hC8.fr (HE7.out.kl Hg7.out); have k78 := Hk7.out.fr hC8.fr (fun v L hk => HE7.out.kl hk))) | (go_at_call 12; have z2 := hkl; refine (same_rfq _ _ _ _ (hkk.keep hb11') z2).mono ?_; rintro e w12 ⟨rfl, hb12'⟩; have hb12 := hb11.trans (hb12'.mono hb11.size)) | (go_at_call 12; refine (same_rfq _ _ _ _ hko kg8).mono ?_; rintro e w9 ⟨rfl, hb9⟩) | (go_at_call 32; refine (akeys_any px _ (hE8.keep hb9)).mono ?_; rintro e w10 ⟨vk, rfl, hkk, hb10'⟩; have hb10 := hb9.trans (hb10'.mono hb9.size)) | (go_at_call 33; refine (arl_keys t _ _ _ _ _ HSO.out (k78.keep hb10)).mono ?_; rintro e w11 ⟨vl, rfl, hkl, hb11'⟩; have hb11 := hb10.trans (hb11'.mono hb10.size)) | (go_at_call 34; refine (aghosts_any px _ (hE8.keep hb12)).mono ?_; rintro e w14 ⟨rfl, hb14'⟩; have hb14 := hb12.trans (hb14'.mono hb12.size)) | (go_at_call 35; refine (arl_ghosts t _ _ _ _ _ HSO.out (k78.keep hb14)).mono ?_; rintro e w13 ⟨rfl, hb13'⟩; have hb13 := hb14.trans (hb13'.mono hb14.size)))
          have HE9 := Go.Lib.hid (hE8.keep hb13)
          have Hb9 := Go.Lib.hid (b78.keep hb13)
          have Hk9 := Go.Lib.hid (k78.keep hb13)
          have HC9 := Go.Lib.hid (ch8.below hb13)
          have hpp : p9 ≤ 28 := by have q1 := hp8; have q2 := HS.out.hi; omega
          clear hb9 hb10 hb11 hb12 hb13 hb10' hb11' hb12' hb13' hb14 hb14' hko hE8 hC8 hp8 b78 ch8 kg8 k78 hkk hkl z2
          go_wp2_with fail
          go_roundw
          case rel => exact ⟨j + 1, t, O9, p9, _, _, _, _, by omega, by go_num, HSO.out, hpp, HE9.out, Hb9.out, Hk9.out, HC9.out⟩
          case measure => simp [intOf]; omega
      · have e : j = A.length := by omega
        subst e
        have HF := Go.Lib.hid hch.fr.below
        clear hs hE hb7 hk7 hch
        go_wp2_with fail
        go_ret
        exact ⟨rfl, HF.out⟩
  · have hlb : (60 : Int) < A.length := by omega
    go_enter Tryz.func5, Tryz.ntmps5
    go_wp2_with fail
    refine (aawake_any _).mono ?_
    rintro e w1 ⟨rfl, hb1⟩
    have HB1 := Go.Lib.hid hb1
    clear hb1
    go_wp2_with fail
    go_ret
    exact ⟨rfl, HB1.out⟩
end Go.Proofs.YtlakojncjldpbaaGreat
