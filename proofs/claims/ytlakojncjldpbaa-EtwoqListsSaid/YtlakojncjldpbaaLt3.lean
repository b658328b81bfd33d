/- The lists' two queues: shrink. -/
import Derived.Test.YtlakojncjldpbaaLt2
import Derived.Deep.RegionWith
namespace Go.Proofs.Ytlakojncjldpbaa
open Go.RowKit Hop
set_option linter.unusedVariables false
set_option linter.unusedSimpArgs false
set_option maxRecDepth 100000
theorem front_f (v : Value) (L : List Int) (k : Int) (w : World) (hsm : L.length < 100000) (h : KL w v L) :
    Calls Try.prog 156 #[v, .int .u64 k] w fun e w' => ∃ a1 n1 cap1, e = .returned (.slice a1 n1 cap1) ∧ KL w' (.slice a1 n1 cap1) (k :: wo L k) ∧ (∀ b, (Value.slice a1 n1 cap1).ownBlock = some b → w.heap.size ≤ b) ∧ Below w.heap.size w w' :=
  (sqfront_any v L k w hsm h).mono fun e w' ⟨v', h1, h2, h3, h4⟩ => by
    obtain ⟨a, cap, rfl⟩ := h2.form
    exact ⟨a, _, cap, h1, h2, h3, h4⟩
/-- What lies where, between the rounds of shrink. -/
structure ShR (w wr : World) (c : Int) (i o m G : List Int) (v1 v2 v3 v4 : Value) : Prop where
  b0 : Blk wr w.heap.size (twC c v1 v2 v3) 66
  b1 : Blk wr (w.heap.size + 1) (twC 0 (.slice none 0 0) (.slice none 0 0) (.slice none 0 0)) 66
  bg : Blk wr (w.heap.size + 1 + 1) [v4] 26
  ki : KL wr v1 i
  ko : KL wr v2 o
  km : KL wr v3 m
  kg : KL wr v4 G
  og : ∀ b, v4.ownBlock = some b → w.heap.size ≤ b ∧ v1.ownBlock ≠ some b ∧ v2.ownBlock ≠ some b ∧ v3.ownBlock ≠ some b
  hb : Below w.heap.size w wr
def ShI (w wr : World) (c : Int) (i o m G : List Int) : Prop :=
  ∃ u1 k1 q1 u2 k2 q2 u3 k3 q3 u4 k4 q4, ShR w wr c i o m G (.slice u1 k1 q1) (.slice u2 k2 q2) (.slice u3 k3 q3) (.slice u4 k4 q4)
set_option maxHeartbeats 12800000 in
theorem twshrink_any (c n : Int) (v1 v2 v3 : Value) (i o m : List Int) (w : World) (hc0 : 1 ≤ c) (hc1 : c ≤ 1048576) (hn0 : 0 ≤ n) (hn1 : n ≤ 1048576) (hi : i.length < 10000) (ho : o.length < 10000) (hm : m.length < 10000) (h1 : KL w v1 i) (h2 : KL w v2 o) (h3 : KL w v3 m) :
    Calls Try.prog 161 #[twV c v1 v2 v3, .int .i64 n] w fun e w' => ∃ u1 u2 u3 vo, e = .returned (.tuple #[twV c u1 u2 u3, vo]) ∧
      KL w' u1 (shrT n (i.length + m.length) ⟨c, i, o, m⟩).1.i ∧ KL w' u2 (shrT n (i.length + m.length) ⟨c, i, o, m⟩).1.o ∧ KL w' u3 (shrT n (i.length + m.length) ⟨c, i, o, m⟩).1.m ∧ KL w' vo (shrT n (i.length + m.length) ⟨c, i, o, m⟩).2 ∧ Below w.heap.size w w' := by
  obtain ⟨a1, p1, rfl⟩ := h1.form
  obtain ⟨a2, p2, rfl⟩ := h2.form
  obtain ⟨a3, p3, rfl⟩ := h3.form
  generalize hz1 : i.length = z1 at *
  generalize hz2 : o.length = z2 at *
  generalize hz3 : m.length = z3 at *
  obtain ⟨W, hW⟩ : ∃ W, W = ((w.alloc (.cells #[.int .i64 c, .slice a1 z1 p1, .slice a2 z2 p2, .slice a3 z3 p3] 66)).alloc (.cells #[.int .i64 0, .slice none 0 0, .slice none 0 0, .slice none 0 0] 66)).alloc (.cells #[.slice none 0 0] 26) := ⟨_, rfl⟩
  have B0 : Below w.heap.size w W := by rw [hW]; exact (((Below.refl _ _).alloc (Nat.le_refl _) _).alloc (by simp) _).alloc (by simp; omega) _
  have hR : ShR w W c i o m [] (.slice a1 z1 p1) (.slice a2 z2 p2) (.slice a3 z3 p3) (.slice none 0 0) := by
    refine ⟨?_, ?_, ?_, h1.keep B0, h2.keep B0, h3.keep B0, KL.nil _, (fun b hb => by cases hb), B0⟩
    · rw [hW]; exact ((Blk.new0 w (twC c (.slice a1 z1 p1) (.slice a2 z2 p2) (.slice a3 z3 p3)) 66).alloc _).alloc _
    · have q := Blk.new0 (w.alloc (.cells #[.int .i64 c, .slice a1 z1 p1, .slice a2 z2 p2, .slice a3 z3 p3] 66)) (twC 0 (.slice none 0 0) (.slice none 0 0) (.slice none 0 0)) 66
      rw [World.size_alloc] at q
      rw [hW]; exact q.alloc _
    · have q := Blk.new0 ((w.alloc (.cells #[.int .i64 c, .slice a1 z1 p1, .slice a2 z2 p2, .slice a3 z3 p3] 66)).alloc (.cells #[.int .i64 0, .slice none 0 0, .slice none 0 0, .slice none 0 0] 66)) [.slice none 0 0] 26
      rw [World.size_alloc, World.size_alloc] at q
      rw [hW]; exact q
  have HR := Go.Lib.hid (show ShI w W c i o m [] from ⟨_, _, _, _, _, _, _, _, _, _, _, _, hR⟩)
  have HW := Go.Lib.hid hW
  have HZ := Go.Lib.hid (show i.length + m.length = z1 + z3 by omega)
  have HO := Go.Lib.hid (show o.length < 10000 by omega)
  clear hW B0 hR h1 h2 h3 hz1 hz2 hz3
  generalize hF : shrT n (z1 + z3) ⟨c, i, o, m⟩ = R at *
  have HF := Go.Lib.hid hF
  clear hF
  go_enter Try.func161, Try.ntmps161
  go_wp2_with fail
  go_step3
  go_wp2_with fail
  go_step3
  go_wp2_with fail
  rw [← HW.out]
  go_loopg [] (z1 + z3) (fun g wr => ∃ (i' o' m' G G2 : List Int), i'.length + m'.length = g ∧ G.length + g ≤ z1 + z3 ∧ o'.length + g ≤ o.length + (z1 + z3) ∧ shrT n g ⟨c, i', o', m'⟩ = (R.1, G2) ∧ G ++ G2 = R.2 ∧ ShI w wr c i' o' m' G)
  case atStart => exact ⟨i, o, m, [], R.2, HZ.out, by simp, Nat.le_refl _, by rw [HF.out], rfl, HR.out⟩
  case round =>
    clear HR HZ HF HW
    obtain ⟨i', o', m', G, G2, hg, hgl, hol, hsh, hgo, hsi⟩ := hrel
    obtain ⟨u1, k1, q1, u2, k2, q2, u3, k3, q3, u4, k4, q4, hq⟩ := hsi
    have hk1 : k1 = i'.length := by
      obtain ⟨a, cp, e⟩ := hq.ki.form
      injection e
    have hk3 : k3 = m'.length := by
      obtain ⟨a, cp, e⟩ := hq.km.form
      injection e
    subst hk1; subst hk3
    have c0 := hq.b0.cell 0
    have c1 := hq.b0.cell 1
    have c2 := hq.b0.cell 2
    have c3 := hq.b0.cell 3
    simp only [List.getElem?_cons_zero, List.getElem?_cons_succ] at c0 c1 c2 c3
    have l0 := hq.b0.lt
    have cg := hq.bg.cell 0
    have s0 := hq.b1.cell 0
    have s1 := hq.b1.cell 1
    have s2 := hq.b1.cell 2
    have s3 := hq.b1.cell 3
    have f0 := hq.b1.frozen 0
    have f1 := hq.b1.frozen 1
    have f2 := hq.b1.frozen 2
    have f3 := hq.b1.frozen 3
    simp only [List.getElem?_cons_zero, List.getElem?_cons_succ] at cg s0 s1 s2 s3
    have lg := hq.bg.lt
    have l1 := hq.b1.lt
    have HQ := Go.Lib.hid hq
    have HSH := Go.Lib.hid hsh
    have HGO := Go.Lib.hid hgo
    have HG := Go.Lib.hid hg
    have ho' := HO.out
    have hlen : i'.length + m'.length < 20000 := by omega
    have hwr : wrap64 ((i'.length : Int) + (m'.length : Int)) = (i'.length : Int) + (m'.length : Int) := by unfold wrap64; omega
    have HLEN := Go.Lib.hid hlen
    have HOL := Go.Lib.hid hol
    have HGL := Go.Lib.hid hgl
    have HHI := Go.Lib.hid hi
    have HHM := Go.Lib.hid hm
    have HHO := Go.Lib.hid ho
    clear hlen hol hgl ho' hi hm ho
    by_cases hle : (i'.length : Int) + (m'.length : Int) ≤ n
    · have hse := shrT_end n gk c i' o' m' hle
      rw [hsh] at hse
      injection hse with e1 e2
      have HE1 := Go.Lib.hid e1
      have HE2 : Hid (G = R.2) := Go.Lib.hid (by rw [← hgo, e2, List.append_nil])
      have Dr := (Below.refl wr.heap.size wr).drew
      have T0 := Go.Lib.hid ((⟨c0, c1, c2, c3, cg⟩ : wr.drew.cell? ⟨w.heap.size, 0, none⟩ = some (.int .i64 c) ∧ wr.drew.cell? ⟨w.heap.size, 1, none⟩ = some (.slice u1 i'.length q1) ∧ wr.drew.cell? ⟨w.heap.size, 2, none⟩ = some (.slice u2 k2 q2) ∧ wr.drew.cell? ⟨w.heap.size, 3, none⟩ = some (.slice u3 m'.length q3) ∧ wr.drew.cell? ⟨w.heap.size + 1 + 1, 0, none⟩ = some (.slice u4 k4 q4)))
      have T3 := Go.Lib.hid (fun x0 x1 x2 x3 => (have q := ((((hq.b0.drew).set_ne (a := ⟨w.heap.size + 1, 0, none⟩) (show w.heap.size ≠ w.heap.size + 1 by omega) x0).set_ne (a := ⟨w.heap.size + 1, 1, none⟩) (show w.heap.size ≠ w.heap.size + 1 by omega) x1).set_ne (a := ⟨w.heap.size + 1, 2, none⟩) (show w.heap.size ≠ w.heap.size + 1 by omega) x2).set_ne (a := ⟨w.heap.size + 1, 3, none⟩) (show w.heap.size ≠ w.heap.size + 1 by omega) x3; have qg := ((((hq.bg.drew).set_ne (a := ⟨w.heap.size + 1, 0, none⟩) (show w.heap.size + 1 + 1 ≠ w.heap.size + 1 by omega) x0).set_ne (a := ⟨w.heap.size + 1, 1, none⟩) (show w.heap.size + 1 + 1 ≠ w.heap.size + 1 by omega) x1).set_ne (a := ⟨w.heap.size + 1, 2, none⟩) (show w.heap.size + 1 + 1 ≠ w.heap.size + 1 by omega) x2).set_ne (a := ⟨w.heap.size + 1, 3, none⟩) (show w.heap.size + 1 + 1 ≠ w.heap.size + 1 by omega) x3; (⟨q.cell 0, q.cell 1, q.cell 2, q.cell 3, qg.cell 0⟩ : ((((wr.drew.setCell ⟨w.heap.size + 1, 0, none⟩ x0).setCell ⟨w.heap.size + 1, 1, none⟩ x1).setCell ⟨w.heap.size + 1, 2, none⟩ x2).setCell ⟨w.heap.size + 1, 3, none⟩ x3).cell? ⟨w.heap.size, 0, none⟩ = some (.int .i64 c) ∧ ((((wr.drew.setCell ⟨w.heap.size + 1, 0, none⟩ x0).setCell ⟨w.heap.size + 1, 1, none⟩ x1).setCell ⟨w.heap.size + 1, 2, none⟩ x2).setCell ⟨w.heap.size + 1, 3, none⟩ x3).cell? ⟨w.heap.size, 1, none⟩ = some (.slice u1 i'.length q1) ∧ ((((wr.drew.setCell ⟨w.heap.size + 1, 0, none⟩ x0).setCell ⟨w.heap.size + 1, 1, none⟩ x1).setCell ⟨w.heap.size + 1, 2, none⟩ x2).setCell ⟨w.heap.size + 1, 3, none⟩ x3).cell? ⟨w.heap.size, 2, none⟩ = some (.slice u2 k2 q2) ∧ ((((wr.drew.setCell ⟨w.heap.size + 1, 0, none⟩ x0).setCell ⟨w.heap.size + 1, 1, none⟩ x1).setCell ⟨w.heap.size + 1, 2, none⟩ x2).setCell ⟨w.heap.size + 1, 3, none⟩ x3).cell? ⟨w.heap.size, 3, none⟩ = some (.slice u3 m'.length q3) ∧ ((((wr.drew.setCell ⟨w.heap.size + 1, 0, none⟩ x0).setCell ⟨w.heap.size + 1, 1, none⟩ x1).setCell ⟨w.heap.size + 1, 2, none⟩ x2).setCell ⟨w.heap.size + 1, 3, none⟩ x3).cell? ⟨w.heap.size + 1 + 1, 0, none⟩ = some (.slice u4 k4 q4))))
      clear hq hsh hgo hg e1 e2 Dr
      go_wp2_with fail
      go_region_held3 (fun W' => W'.cell? ⟨w.heap.size, 0, none⟩ = some (.int .i64 c) ∧ W'.cell? ⟨w.heap.size, 1, none⟩ = some (.slice u1 i'.length q1) ∧ W'.cell? ⟨w.heap.size, 2, none⟩ = some (.slice u2 k2 q2) ∧ W'.cell? ⟨w.heap.size, 3, none⟩ = some (.slice u3 m'.length q3) ∧ W'.cell? ⟨w.heap.size + 1 + 1, 0, none⟩ = some (.slice u4 k4 q4))
        (first | with_reducible exact T0.out | exact T3.out _ _ _ _)
        (fail)
      obtain ⟨W6, hW6⟩ : ∃ W6, W6 = ((((wr.setCell ⟨w.heap.size + 1, 0, none⟩ (.int .i64 c)).setCell ⟨w.heap.size + 1, 1, none⟩ (.slice u1 i'.length q1)).setCell ⟨w.heap.size + 1, 2, none⟩ (.slice u2 k2 q2)).setCell ⟨w.heap.size + 1, 3, none⟩ (.slice u3 m'.length q3)).drew := ⟨_, rfl⟩
      have F6 : Fr (fun k => k = w.heap.size + 1) wr.drew W6 := by rw [hW6]; exact ((((Fr.refl (fun k => k = w.heap.size + 1) wr.drew).setEq rfl _).setEq rfl _).setEq rfl _).setEq rfl _
      have b6 : Blk W6 (w.heap.size + 1) (twC c (.slice u1 i'.length q1) (.slice u2 k2 q2) (.slice u3 m'.length q3)) 66 := by rw [hW6]; exact (((HQ.out.b1.drew.set 0 _).set 1 _).set 2 _).set 3 _
      have ne1 := HQ.out.ki.ne HQ.out.b1 (by decide)
      have ne2 := HQ.out.ko.ne HQ.out.b1 (by decide)
      have ne3 := HQ.out.km.ne HQ.out.b1 (by decide)
      have ne4 := HQ.out.kg.ne HQ.out.b1 (by decide)
      have Dr := (Below.refl wr.heap.size wr).drew
      have HN := Go.Lib.hid (⟨(HQ.out.ki.keep Dr).fr2 F6 (fun g hg e => ne1 g hg e), (HQ.out.ko.keep Dr).fr2 F6 (fun g hg e => ne2 g hg e), (HQ.out.km.keep Dr).fr2 F6 (fun g hg e => ne3 g hg e), (HQ.out.kg.keep Dr).fr2 F6 (fun g hg e => ne4 g hg e), below_fr (HQ.out.hb.trans (Dr.mono HQ.out.hb.size)) F6 (Nat.le_refl _) (fun i hi => by omega)⟩ :
        KL W6 (.slice u1 i'.length q1) i' ∧ KL W6 (.slice u2 k2 q2) o' ∧ KL W6 (.slice u3 m'.length q3) m' ∧ KL W6 (.slice u4 k4 q4) G ∧ Below w.heap.size w W6)
      rw [← hW6]
      clear hW6 F6 ne1 ne2 ne3 ne4 Dr c0 c1 c2 c3 cg s0 s1 s2 s3 f0 f1 f2 f3
      have d0 := b6.cell 0
      have d1 := b6.cell 1
      have d2 := b6.cell 2
      have d3 := b6.cell 3
      simp only [List.getElem?_cons_zero, List.getElem?_cons_succ] at d0 d1 d2 d3
      have dl := b6.lt
      clear b6
      go_wp2_with fail
      rw [Exit.noGoto_ret]
      refine bodyPost_ret (v := .tuple #[.agg #[.int .i64 c, .slice u1 i'.length q1, .slice u2 k2 q2, .slice u3 m'.length q3], .slice u4 k4 q4]) (by simp [results, Try.results161, go_sem, d0, d1, d2, d3]) rfl ⟨.slice u1 i'.length q1, .slice u2 k2 q2, .slice u3 m'.length q3, .slice u4 k4 q4, rfl, ?_⟩
      rw [HE1.out, ← HE2.out]
      exact HN.out
    · -- rounds
      have hpos : 0 < i'.length + m'.length := by omega
      obtain ⟨f, rfl⟩ : ∃ f, gk = f + 1 := ⟨gk - 1, by omega⟩
      have hsg := shrT_go n f ⟨c, i', o', m'⟩ hle
      rw [HSH.out] at hsg
      injection hsg with e1 e2
      have HE1 := Go.Lib.hid e1
      have HE2 := Go.Lib.hid e2
      have HPOS := Go.Lib.hid hpos
      have HHG := Go.Lib.hid hg
      clear e1 e2 hpos hsh hgo hg hq
      by_cases hc5 : max (c / 4) 1 < (i'.length : Int)
      · obtain ⟨i2, x, hi2⟩ : ∃ i2 x, i' = i2 ++ [x] := snoc_of_ne (by rintro rfl; simp at hc5; omega)
        have hrec : reclT ⟨c, i', o', m'⟩ = (⟨c, i2, (x :: wo o' x).take (c / 2).toNat, m'⟩, x) := by rw [hi2]; exact reclT_in c i2 x o' m' (by rw [← hi2]; exact .inl hc5)
        have HREC := Go.Lib.hid hrec
        have HI2 := Go.Lib.hid hi2
        have hl2 : i2.length + 1 = i'.length := by rw [hi2]; simp
        have HFL := Go.Lib.hid (show i2.length + m'.length = f by have := HHG.out; omega)
        have HGF := Go.Lib.hid (show (G ++ [x]).length + f ≤ z1 + z3 by have := HGL.out; rw [List.length_append, List.length_singleton]; omega)
        have HOF := Go.Lib.hid (show ((x :: wo o' x).take (c / 2).toNat).length + f ≤ o.length + (z1 + z3) by have q := HOL.out; have q5 := wo_len o' x; rw [List.length_take, List.length_cons]; omega)
        have HEV := Go.Lib.hid (twevict_any (w.heap.size + 1 + 1) (.slice u1 i'.length q1) i2 x G u4 k4 q4 wr (by have := HLEN.out; omega) (by have q1 := HGL.out; have q2 := HHI.out; have q3 := HHM.out; omega) (by rw [← hi2]; exact HQ.out.ki) HQ.out.kg HQ.out.bg)
        have HL2 := Go.Lib.hid hl2
        clear hi2 hrec hl2 s0 s1 s2 s3 f0 f1 f2 f3 cg
        go_wp2_with fail
        refine HEV.out.mono ?_
        rintro e w1 ⟨u, n5, p5, u5, n6, p6, rfl, hku, hkg, hbg, hou, hog, hF⟩
        have hn6 : n6 = G.length + 1 := by
          obtain ⟨a, cp, e⟩ := hkg.form
          injection e with e1 e2 e3
          rw [e2]; simp
        subst hn6
        have nb0 : (Value.slice u4 k4 q4).ownBlock ≠ some w.heap.size := fun e => HQ.out.kg.ne HQ.out.b0 (by decide) _ e rfl
        have nb1 : (Value.slice u4 k4 q4).ownBlock ≠ some (w.heap.size + 1) := fun e => HQ.out.kg.ne HQ.out.b1 (by decide) _ e rfl
        have x0 := hF.blk (fun e => e.elim (fun e => by omega) nb0) HQ.out.b0
        have x1 := hF.blk (fun e => e.elim (fun e => by omega) nb1) HQ.out.b1
        have hFs := hF.size
        have ko1 : KL w1 (.slice u2 k2 q2) o' := HQ.out.ko.fr2 hF (fun g hg e => e.elim (fun e => HQ.out.ko.ne HQ.out.bg (by decide) g hg e) (fun e => (HQ.out.og g e).2.2.1 hg))
        have km1 : KL w1 (.slice u3 m'.length q3) m' := HQ.out.km.fr2 hF (fun g hg e => e.elim (fun e => HQ.out.km.ne HQ.out.bg (by decide) g hg e) (fun e => (HQ.out.og g e).2.2.2 hg))
        have B1 : Below w.heap.size w w1 := below_fr HQ.out.hb hF (Nat.le_refl _) (fun i hi => hi.elim (fun e => by omega) (fun e => (HQ.out.og i e).1))
        obtain ⟨V, hV⟩ : ∃ V, V = w1.setCell ⟨w.heap.size, 1, none⟩ (.slice u n5 p5) := ⟨_, rfl⟩
        have FV : Fr (fun k => k = w.heap.size) w1 V := by rw [hV]; exact (Fr.refl (fun k => k = w.heap.size) w1).setEq rfl _
        have y0 : Blk V w.heap.size (twC c (.slice u n5 p5) (.slice u2 k2 q2) (.slice u3 m'.length q3)) 66 := by rw [hV]; exact x0.set 1 _
        have y1 : Blk V (w.heap.size + 1) (twC 0 (.slice none 0 0) (.slice none 0 0) (.slice none 0 0)) 66 := by rw [hV]; exact x1.set_ne (a := ⟨w.heap.size, 1, none⟩) (show w.heap.size + 1 ≠ w.heap.size by omega) _
        have yg : Blk V (w.heap.size + 1 + 1) [.slice u5 (G.length + 1) p6] 26 := by rw [hV]; exact hbg.set_ne (a := ⟨w.heap.size, 1, none⟩) (show w.heap.size + 1 + 1 ≠ w.heap.size by omega) _
        have kuV := hku.fr2 FV (fun g hg e => hku.ne x0 (by decide) g hg e)
        have koV := ko1.fr2 FV (fun g hg e => ko1.ne x0 (by decide) g hg e)
        have kmV := km1.fr2 FV (fun g hg e => km1.ne x0 (by decide) g hg e)
        have kgV := hkg.fr2 FV (fun g hg e => hkg.ne x0 (by decide) g hg e)
        have BV := below_fr B1 FV (Nat.le_refl _) (fun i hi => by omega)
        have OG := Go.Lib.hid (fun b (q : (Value.slice u5 (G.length + 1) p6).ownBlock = some b) => (⟨((hog b q).1.elim (fun e => (HQ.out.og b e).1) (fun e => by have := HQ.out.hb.size; omega)), (hog b q).2, (fun e => (hog b q).1.elim (fun h => (HQ.out.og b h).2.2.2 e) (fun h => by have := (HQ.out.km.lt e).1; omega))⟩ : w.heap.size ≤ b ∧ (Value.slice u n5 p5).ownBlock ≠ some b ∧ (Value.slice u3 m'.length q3).ownBlock ≠ some b))
        obtain ⟨g5, he5, rc1, rc2, rc3⟩ := kgV.cell (j := G.length) (by simp)
        have hx5 : (G ++ [x])[G.length]'(by simp) = x := by simp
        rw [hx5] at rc3
        subst he5
        obtain ⟨l5, cs5, hb5⟩ := kgV.lt (b := g5) rfl
        have hg5 : g5 ≠ w.heap.size := fun e => kgV.ne y0 (by decide) g5 rfl e
        have hc5' := hb5.cell G.length
        rw [rc3] at hc5'
        have HS7 := Go.Lib.hid (fun w2 (hb : Below V.drew.heap.size V.drew w2) => (⟨(yg.drew.keep hb).cell 0, ((hb5.drew.keep hb).cell G.length).trans hc5'.symm⟩ : w2.cell? ⟨w.heap.size + 1 + 1, 0, none⟩ = some (.slice (some ⟨g5, 0, none⟩) (G.length + 1) p6) ∧ w2.cell? ⟨g5, G.length, none⟩ = some (.int .u64 x)))
        have HS8 := Go.Lib.hid (fun w2 v (hb : Below V.drew.heap.size V.drew w2) => (⟨((yg.drew.keep hb).set_ne (a := ⟨w.heap.size, 2, none⟩) (show w.heap.size + 1 + 1 ≠ w.heap.size by omega) v).cell 0, (((hb5.drew.keep hb).set_ne (a := ⟨w.heap.size, 2, none⟩) hg5 v).cell G.length).trans hc5'.symm⟩ : (w2.setCell ⟨w.heap.size, 2, none⟩ v).cell? ⟨w.heap.size + 1 + 1, 0, none⟩ = some (.slice (some ⟨g5, 0, none⟩) (G.length + 1) p6) ∧ (w2.setCell ⟨w.heap.size, 2, none⟩ v).cell? ⟨g5, G.length, none⟩ = some (.int .u64 x)))
        clear hb5 hc5'
        have HFR := Go.Lib.hid (front_f _ o' x V.drew (by have q1 := HOL.out; have q2 := HO.out; have q3 := HHI.out; have q4 := HHM.out; omega) (koV.keep (Below.refl _ _).drew))
        have e1 := x0.cell 1
        have f1 := x0.frozen 1
        have m0 := x0.lt
        simp only [List.getElem?_cons_zero, List.getElem?_cons_succ] at e1
        have HV := Go.Lib.hid hV
        have Y0 := Go.Lib.hid y0
        have Y1 := Go.Lib.hid y1
        have YG := Go.Lib.hid yg
        have KU := Go.Lib.hid kuV
        have KM := Go.Lib.hid kmV
        have KG := Go.Lib.hid kgV
        have HBV := Go.Lib.hid BV
        have w2c : V.drew.cell? ⟨w.heap.size, 2, none⟩ = some (.slice u2 k2 q2) := y0.cell 2
        have wgc : V.drew.cell? ⟨w.heap.size + 1 + 1, 0, none⟩ = some (.slice (some ⟨g5, 0, none⟩) (G.length + 1) p6) := yg.cell 0
        have wxc : V.drew.cell? ⟨g5, G.length, none⟩ = some (.int .u64 x) := rc3
        have lv0 := y0.lt
        have lvg := yg.lt
        have j0 : (0 : Int) ≤ (G.length : Int) := by omega
        have jb : (G.length : Int) ≤ 40000 := by have q1 := HGL.out; have q2 := HHI.out; have q3 := HHM.out; omega
        have j2 : IntKind.i64.wrap (G.length : Int) = (G.length : Int) := IntWalk.i64_in _ (by omega)
        have j3 : IntKind.i64.wrap ((G.length : Int) + 1 - 1) = (G.length : Int) := by rw [show (G.length : Int) + 1 - 1 = (G.length : Int) by omega]; exact j2
        have j4 : wrap64 (G.length : Int) = (G.length : Int) := by unfold wrap64; omega
        have j5 : ((G.length : Int)).toNat = G.length := Int.toNat_natCast _
        have j1 : (G.length : Int) < (G.length : Int) + 1 := by omega
        clear hku hkg hbg hou hog hF nb0 nb1 x0 x1 ko1 km1 B1 hV FV y0 y1 yg kuV koV kmV kgV BV rc3 rc1 rc2 hx5 HEV c0 c1 c2 c3
        go_wp2_with fail
        rw [← HV.out]
        refine wp_region_held_drew (S := fun W' => W'.cell? ⟨w.heap.size + 1 + 1, 0, none⟩ = some (.slice (some ⟨g5, 0, none⟩) (G.length + 1) p6) ∧ W'.cell? ⟨g5, G.length, none⟩ = some (.int .u64 x)) (by kernel_rfl) ⟨wgc, wxc⟩ (fun hHeld => ?_)
        refine wpAnyH_take (i := 0) (v := ?v0) rfl (by kernel_rfl) (by kernel_rfl) (by kernel_rfl) (fun _ _ _ h => h) (Or.inl ⟨by rfl, ?hy0⟩) (by assumption) ?rest0
        case hy0 => intro w' hSw; (try dsimp only at hSw); go_simp; first | done | with_reducible rfl
        try simp only [Act.put, List.getElem_toArray, List.getElem_cons_succ, List.getElem_cons_zero, List.setIfInBounds_toArray, List.set_cons_zero, List.set_cons_succ]
        refine wpAnyH_take (i := 2) (v := ?v2) rfl (by kernel_rfl) (by kernel_rfl) (by kernel_rfl) (fun _ _ _ h => h) (Or.inl ⟨by rfl, ?hy2⟩) (by assumption) ?rest2
        case hy2 => intro w' hSw; (try dsimp only at hSw); go_simp; first | done | with_reducible rfl
        try simp only [Act.put, List.getElem_toArray, List.getElem_cons_succ, List.getElem_cons_zero, List.setIfInBounds_toArray, List.set_cons_zero, List.set_cons_succ]
        refine wpAnyH_take (i := 3) (v := ?v3) rfl (by kernel_rfl) (by kernel_rfl) (by kernel_rfl) (fun _ _ _ h => h) (Or.inl ⟨by rfl, ?hy3⟩) (by assumption) ?rest3
        case hy3 => intro w' hSw; (try dsimp only at hSw); go_simp; first | done | with_reducible rfl
        try simp only [Act.put, List.getElem_toArray, List.getElem_cons_succ, List.getElem_cons_zero, List.setIfInBounds_toArray, List.set_cons_zero, List.set_cons_succ]
        refine wpAnyH_take (i := 4) (v := ?v4) rfl (by kernel_rfl) (by kernel_rfl) (by kernel_rfl) (fun _ _ _ h => h) (Or.inl ⟨by rfl, ?hy4⟩) (by assumption) ?rest4
        case hy4 => intro w' hSw; (try dsimp only at hSw); go_simp; first | done | with_reducible rfl
        try simp only [Act.put, List.getElem_toArray, List.getElem_cons_succ, List.getElem_cons_zero, List.setIfInBounds_toArray, List.set_cons_zero, List.set_cons_succ]
        refine wpAnyH_take (i := 5) (v := ?v5) rfl (by kernel_rfl) (by kernel_rfl) (by kernel_rfl) (fun _ _ _ h => h) (Or.inl ⟨by rfl, ?hy5⟩) (by assumption) ?rest5
        case hy5 => intro w' hSw; (try dsimp only at hSw); go_simp; first | done | with_reducible rfl
        try simp only [Act.put, List.getElem_toArray, List.getElem_cons_succ, List.getElem_cons_zero, List.setIfInBounds_toArray, List.set_cons_zero, List.set_cons_succ]
        refine wpAnyH_take (i := 6) (v := ?v6) rfl (by kernel_rfl) (by kernel_rfl) (by kernel_rfl) (fun _ _ _ h => h) (Or.inl ⟨by rfl, ?hy6⟩) (by assumption) ?rest6
        case hy6 => intro w' hSw; (try dsimp only at hSw); go_simp; first | done | with_reducible rfl
        try simp only [Act.put, List.getElem_toArray, List.getElem_cons_succ, List.getElem_cons_zero, List.setIfInBounds_toArray, List.set_cons_zero, List.set_cons_succ]
        refine wpAnyH_take (i := 7) (v := ?v7) rfl (by kernel_rfl) (by kernel_rfl) (by kernel_rfl) (fun _ _ _ h => h) (Or.inl ⟨by rfl, ?hy7⟩) (by assumption) ?rest7
        case hy7 => intro w' hSw; (try dsimp only at hSw); go_simp; first | done | with_reducible rfl
        try simp only [Act.put, List.getElem_toArray, List.getElem_cons_succ, List.getElem_cons_zero, List.setIfInBounds_toArray, List.set_cons_zero, List.set_cons_succ]
        refine wpAnyH_ready (rs := [1]) (by kernel_rfl) (by simp) ?_
        refine AllReadyH.cons rfl (fun K hK => ?_) AllReadyH.nil
        go_simp
        refine hK.out _ _ (⟨wgc, wxc⟩) (fun hHeld => ?_)
        clear hK K
        try simp only [Act.put, List.getElem_toArray, List.getElem_cons_succ, List.getElem_cons_zero, List.setIfInBounds_toArray, List.set_cons_zero, List.set_cons_succ]
        refine wpAnyH_ready (rs := [8]) (by kernel_rfl) (by simp) ?_
        refine AllReadyH.cons rfl (fun K hK => ?_) AllReadyH.nil
        go_simp
        refine HFR.out.mono ?_
        rintro e w2 ⟨a7, n7, p7, rfl, hk7, ho7, hb7⟩
        have s7 := HS7.out w2 hb7
        refine hK.out _ _ (s7) (fun hHeld => ?_)
        clear hK K
        try simp only [Act.put, List.getElem_toArray, List.getElem_cons_succ, List.getElem_cons_zero, List.setIfInBounds_toArray, List.set_cons_zero, List.set_cons_succ]
        refine wpAnyH_take (i := 9) (v := ?v9) rfl (by kernel_rfl) (by kernel_rfl) (by kernel_rfl) (fun _ _ _ h => h) (Or.inl ⟨by rfl, ?hy9⟩) (by assumption) ?rest9
        case hy9 => intro w' hSw; (try dsimp only at hSw); go_simp; first | done | with_reducible rfl
        try simp only [Act.put, List.getElem_toArray, List.getElem_cons_succ, List.getElem_cons_zero, List.setIfInBounds_toArray, List.set_cons_zero, List.set_cons_succ]
        have qb := Y0.out.drew.keep hb7
        have r0 := qb.cell 0
        have r1 := qb.cell 1
        have r2 := qb.cell 2
        have r3 := qb.cell 3
        have t2 := qb.frozen 2
        simp only [List.getElem?_cons_zero, List.getElem?_cons_succ] at r0 r1 r2 r3
        have rl := qb.lt
        refine wpAnyH_ready (rs := [10]) (by kernel_rfl) (by simp) ?_
        refine AllReadyH.cons rfl (fun K hK => ?_) AllReadyH.nil
        go_simp
        refine hK.out _ _ (HS8.out w2 _ hb7) (fun hHeld => ?_)
        clear hK K
        try simp only [Act.put, List.getElem_toArray, List.getElem_cons_succ, List.getElem_cons_zero, List.setIfInBounds_toArray, List.set_cons_zero, List.set_cons_succ]
        refine wpAnyH_done (by kernel_rfl) ?_ _
        obtain ⟨V2, hV2⟩ : ∃ V2, V2 = w2.setCell ⟨w.heap.size, 2, none⟩ (.slice a7 n7 p7) := ⟨_, rfl⟩
        have F2 : Fr (fun k => k = w.heap.size) w2 V2 := by rw [hV2]; exact (Fr.refl (fun k => k = w.heap.size) w2).setEq rfl _
        have z0 : Blk V2 w.heap.size (twC c (.slice u n5 p5) (.slice a7 n7 p7) (.slice u3 m'.length q3)) 66 := by rw [hV2]; exact qb.set 2 _
        have z1' : Blk V2 (w.heap.size + 1) (twC 0 (.slice none 0 0) (.slice none 0 0) (.slice none 0 0)) 66 := by rw [hV2]; exact (Y1.out.drew.keep hb7).set_ne (a := ⟨w.heap.size, 2, none⟩) (show w.heap.size + 1 ≠ w.heap.size by omega) _
        have zg : Blk V2 (w.heap.size + 1 + 1) [.slice (some ⟨g5, 0, none⟩) (G.length + 1) p6] 26 := by rw [hV2]; exact (YG.out.drew.keep hb7).set_ne (a := ⟨w.heap.size, 2, none⟩) (show w.heap.size + 1 + 1 ≠ w.heap.size by omega) _
        have KU2 := (KU.out.keep (Below.refl _ _).drew).keep hb7
        have KM2 := (KM.out.keep (Below.refl _ _).drew).keep hb7
        have KG2 := (KG.out.keep (Below.refl _ _).drew).keep hb7
        have KU3 := KU2.fr2 F2 (fun g hg e => KU2.ne qb (by decide) g hg e)
        have KM3 := KM2.fr2 F2 (fun g hg e => KM2.ne qb (by decide) g hg e)
        have KG3 := KG2.fr2 F2 (fun g hg e => KG2.ne qb (by decide) g hg e)
        have KO3 := hk7.fr2 F2 (fun g hg e => hk7.ne qb (by decide) g hg e)
        have BV2 := below_fr (HBV.out.trans (((Below.refl _ _).drew.trans hb7).mono HBV.out.size)) F2 (Nat.le_refl _) (fun i hi => by omega)
        have HFG := Go.Lib.hid (twforget_any c u a7 u3 n5 n7 m'.length p5 p7 q3 (x :: wo o' x) V2 hc0 hc1 (by have q1 := HOL.out; have q2 := HO.out; have q3 := HHI.out; have q4 := HHM.out; have q5 := wo_len o' x; simp; omega) KO3)
        have Z0 := Go.Lib.hid z0
        have Z1 := Go.Lib.hid z1'
        have ZG := Go.Lib.hid zg
        have HU3 := Go.Lib.hid KU3
        have HM3 := Go.Lib.hid KM3
        have HG3 := Go.Lib.hid KG3
        have HV2 := Go.Lib.hid BV2
        have e0 := z0.cell 0
        have e1' := z0.cell 1
        have e2 := z0.cell 2
        have e3 := z0.cell 3
        simp only [List.getElem?_cons_zero, List.getElem?_cons_succ] at e0 e1' e2 e3
        have le0 := z0.lt
        rw [← hV2]
        clear hV2 F2 z0 z1' zg KU2 KM2 KG2 KU3 KM3 KG3 KO3 BV2 qb r0 r1 r2 r3 t2 rl hk7 ho7 hb7 s7 w2c wgc wxc e1 f1 HS7 HS8
        go_wp2_with fail
        refine HFG.out.mono ?_
        rintro e w3 ⟨a8, n8, p8, rfl, hk8, ho8, hb8⟩
        have x3 := Z0.out.keep hb8
        obtain ⟨V3, hV3⟩ : ∃ V3, V3 = (((w3.setCell ⟨w.heap.size, 0, none⟩ (.int .i64 c)).setCell ⟨w.heap.size, 1, none⟩ (.slice u n5 p5)).setCell ⟨w.heap.size, 2, none⟩ (.slice a8 n8 p8)).setCell ⟨w.heap.size, 3, none⟩ (.slice u3 m'.length q3) := ⟨_, rfl⟩
        have F3 : Fr (fun k => k = w.heap.size) w3 V3 := by rw [hV3]; exact ((((Fr.refl (fun k => k = w.heap.size) w3).setEq rfl _).setEq rfl _).setEq rfl _).setEq rfl _
        have KU4 := HU3.out.keep hb8
        have KM4 := HM3.out.keep hb8
        have KG4 := HG3.out.keep hb8
        have RS : ShI w V3 c i2 ((x :: wo o' x).take (c / 2).toNat) m' (G ++ [x]) := by
          refine ⟨u, n5, p5, a8, n8, p8, u3, m'.length, q3, some ⟨g5, 0, none⟩, G.length + 1, p6, ?_⟩
          refine ⟨by rw [hV3]; exact (((x3.set 0 _).set 1 _).set 2 _).set 3 _, F3.blk (fun e => by omega) (Z1.out.keep hb8), F3.blk (fun e => by omega) (ZG.out.keep hb8), KU4.fr2 F3 (fun g hg e => KU4.ne x3 (by decide) g hg e), hk8.fr2 F3 (fun g hg e => hk8.ne x3 (by decide) g hg e), KM4.fr2 F3 (fun g hg e => KM4.ne x3 (by decide) g hg e), KG4.fr2 F3 (fun g hg e => KG4.ne x3 (by decide) g hg e), fun b hb => ⟨(OG.out b hb).1, (OG.out b hb).2.1, (fun e => by have q1 := ho8 b e; have q2 := (HG3.out.lt hb).1; omega), (OG.out b hb).2.2⟩, below_fr (HV2.out.trans (hb8.mono HV2.out.size)) F3 (Nat.le_refl _) (fun i hi => by omega)⟩
        have HRS := Go.Lib.hid RS
        have s0 := x3.cell 0
        have s1 := x3.cell 1
        have s2 := x3.cell 2
        have s3 := x3.cell 3
        have t0 := x3.frozen 0
        have t1 := x3.frozen 1
        have t2 := x3.frozen 2
        have t3 := x3.frozen 3
        simp only [List.getElem?_cons_zero, List.getElem?_cons_succ] at s0 s1 s2 s3
        have ls := x3.lt
        have HV3 := Go.Lib.hid hV3
        clear RS hV3 F3 KU4 KM4 KG4 x3 hk8 ho8 hb8 HFG e0 e1' e2 e3
        go_wp2_with fail
        rw [← HV3.out]
        go_roundg f
        case rel =>
          have g1 := HREC.out
          have g2 := HE1.out
          have g3 := HE2.out
          rw [g1] at g2 g3
          have g4 := HL2.out
          have g5 := HHG.out
          refine ⟨i2, _, m', G ++ [x], (shrT n f ⟨c, i2, (x :: wo o' x).take (c / 2).toNat, m'⟩).2, HFL.out, HGF.out, HOF.out, by rw [g2], ?_, HRS.out⟩
          rw [← HGO.out, g3]; simp
        case measure => exact Nat.lt_succ_self f
      · by_cases hm0 : m' = []
        · have hc6 := hc5
          have hpp := HPOS.out
          have hm1 : ((m'.length : Int) == 0) = true := by rw [hm0]; rfl
          obtain ⟨i2, x, hi2⟩ : ∃ i2 x, i' = i2 ++ [x] := snoc_of_ne (by intro e; rw [e, hm0] at hpp; simp at hpp)
          have hrec : reclT ⟨c, i', o', m'⟩ = (⟨c, i2, (x :: wo o' x).take (c / 2).toNat, m'⟩, x) := by rw [hi2]; exact reclT_in c i2 x o' m' (by rw [← hi2]; exact .inr hm0)
          have HREC := Go.Lib.hid hrec
          have HI2 := Go.Lib.hid hi2
          have hl2 : i2.length + 1 = i'.length := by rw [hi2]; simp
          have HFL := Go.Lib.hid (show i2.length + m'.length = f by have := HHG.out; omega)
          have HGF := Go.Lib.hid (show (G ++ [x]).length + f ≤ z1 + z3 by have := HGL.out; rw [List.length_append, List.length_singleton]; omega)
          have HOF := Go.Lib.hid (show ((x :: wo o' x).take (c / 2).toNat).length + f ≤ o.length + (z1 + z3) by have q := HOL.out; have q5 := wo_len o' x; rw [List.length_take, List.length_cons]; omega)
          have HEV := Go.Lib.hid (twevict_any (w.heap.size + 1 + 1) (.slice u1 i'.length q1) i2 x G u4 k4 q4 wr (by have := HLEN.out; omega) (by have q1 := HGL.out; have q2 := HHI.out; have q3 := HHM.out; omega) (by rw [← hi2]; exact HQ.out.ki) HQ.out.kg HQ.out.bg)
          have HL2 := Go.Lib.hid hl2
          clear hi2 hrec hl2 hm0 hpp s0 s1 s2 s3 f0 f1 f2 f3 cg
          go_wp2_with fail
          refine HEV.out.mono ?_
          rintro e w1 ⟨u, n5, p5, u5, n6, p6, rfl, hku, hkg, hbg, hou, hog, hF⟩
          have hn6 : n6 = G.length + 1 := by
            obtain ⟨a, cp, e⟩ := hkg.form
            injection e with e1 e2 e3
            rw [e2]; simp
          subst hn6
          have nb0 : (Value.slice u4 k4 q4).ownBlock ≠ some w.heap.size := fun e => HQ.out.kg.ne HQ.out.b0 (by decide) _ e rfl
          have nb1 : (Value.slice u4 k4 q4).ownBlock ≠ some (w.heap.size + 1) := fun e => HQ.out.kg.ne HQ.out.b1 (by decide) _ e rfl
          have x0 := hF.blk (fun e => e.elim (fun e => by omega) nb0) HQ.out.b0
          have x1 := hF.blk (fun e => e.elim (fun e => by omega) nb1) HQ.out.b1
          have hFs := hF.size
          have ko1 : KL w1 (.slice u2 k2 q2) o' := HQ.out.ko.fr2 hF (fun g hg e => e.elim (fun e => HQ.out.ko.ne HQ.out.bg (by decide) g hg e) (fun e => (HQ.out.og g e).2.2.1 hg))
          have km1 : KL w1 (.slice u3 m'.length q3) m' := HQ.out.km.fr2 hF (fun g hg e => e.elim (fun e => HQ.out.km.ne HQ.out.bg (by decide) g hg e) (fun e => (HQ.out.og g e).2.2.2 hg))
          have B1 : Below w.heap.size w w1 := below_fr HQ.out.hb hF (Nat.le_refl _) (fun i hi => hi.elim (fun e => by omega) (fun e => (HQ.out.og i e).1))
          obtain ⟨V, hV⟩ : ∃ V, V = w1.setCell ⟨w.heap.size, 1, none⟩ (.slice u n5 p5) := ⟨_, rfl⟩
          have FV : Fr (fun k => k = w.heap.size) w1 V := by rw [hV]; exact (Fr.refl (fun k => k = w.heap.size) w1).setEq rfl _
          have y0 : Blk V w.heap.size (twC c (.slice u n5 p5) (.slice u2 k2 q2) (.slice u3 m'.length q3)) 66 := by rw [hV]; exact x0.set 1 _
          have y1 : Blk V (w.heap.size + 1) (twC 0 (.slice none 0 0) (.slice none 0 0) (.slice none 0 0)) 66 := by rw [hV]; exact x1.set_ne (a := ⟨w.heap.size, 1, none⟩) (show w.heap.size + 1 ≠ w.heap.size by omega) _
          have yg : Blk V (w.heap.size + 1 + 1) [.slice u5 (G.length + 1) p6] 26 := by rw [hV]; exact hbg.set_ne (a := ⟨w.heap.size, 1, none⟩) (show w.heap.size + 1 + 1 ≠ w.heap.size by omega) _
          have kuV := hku.fr2 FV (fun g hg e => hku.ne x0 (by decide) g hg e)
          have koV := ko1.fr2 FV (fun g hg e => ko1.ne x0 (by decide) g hg e)
          have kmV := km1.fr2 FV (fun g hg e => km1.ne x0 (by decide) g hg e)
          have kgV := hkg.fr2 FV (fun g hg e => hkg.ne x0 (by decide) g hg e)
          have BV := below_fr B1 FV (Nat.le_refl _) (fun i hi => by omega)
          have OG := Go.Lib.hid (fun b (q : (Value.slice u5 (G.length + 1) p6).ownBlock = some b) => (⟨((hog b q).1.elim (fun e => (HQ.out.og b e).1) (fun e => by have := HQ.out.hb.size; omega)), (hog b q).2, (fun e => (hog b q).1.elim (fun h => (HQ.out.og b h).2.2.2 e) (fun h => by have := (HQ.out.km.lt e).1; omega))⟩ : w.heap.size ≤ b ∧ (Value.slice u n5 p5).ownBlock ≠ some b ∧ (Value.slice u3 m'.length q3).ownBlock ≠ some b))
          obtain ⟨g5, he5, rc1, rc2, rc3⟩ := kgV.cell (j := G.length) (by simp)
          have hx5 : (G ++ [x])[G.length]'(by simp) = x := by simp
          rw [hx5] at rc3
          subst he5
          obtain ⟨l5, cs5, hb5⟩ := kgV.lt (b := g5) rfl
          have hg5 : g5 ≠ w.heap.size := fun e => kgV.ne y0 (by decide) g5 rfl e
          have hc5' := hb5.cell G.length
          rw [rc3] at hc5'
          have HS7 := Go.Lib.hid (fun w2 (hb : Below V.drew.heap.size V.drew w2) => (⟨(yg.drew.keep hb).cell 0, ((hb5.drew.keep hb).cell G.length).trans hc5'.symm⟩ : w2.cell? ⟨w.heap.size + 1 + 1, 0, none⟩ = some (.slice (some ⟨g5, 0, none⟩) (G.length + 1) p6) ∧ w2.cell? ⟨g5, G.length, none⟩ = some (.int .u64 x)))
          have HS8 := Go.Lib.hid (fun w2 v (hb : Below V.drew.heap.size V.drew w2) => (⟨((yg.drew.keep hb).set_ne (a := ⟨w.heap.size, 2, none⟩) (show w.heap.size + 1 + 1 ≠ w.heap.size by omega) v).cell 0, (((hb5.drew.keep hb).set_ne (a := ⟨w.heap.size, 2, none⟩) hg5 v).cell G.length).trans hc5'.symm⟩ : (w2.setCell ⟨w.heap.size, 2, none⟩ v).cell? ⟨w.heap.size + 1 + 1, 0, none⟩ = some (.slice (some ⟨g5, 0, none⟩) (G.length + 1) p6) ∧ (w2.setCell ⟨w.heap.size, 2, none⟩ v).cell? ⟨g5, G.length, none⟩ = some (.int .u64 x)))
          clear hb5 hc5'
          have HFR := Go.Lib.hid (front_f _ o' x V.drew (by have q1 := HOL.out; have q2 := HO.out; have q3 := HHI.out; have q4 := HHM.out; omega) (koV.keep (Below.refl _ _).drew))
          have e1 := x0.cell 1
          have f1 := x0.frozen 1
          have m0 := x0.lt
          simp only [List.getElem?_cons_zero, List.getElem?_cons_succ] at e1
          have HV := Go.Lib.hid hV
          have Y0 := Go.Lib.hid y0
          have Y1 := Go.Lib.hid y1
          have YG := Go.Lib.hid yg
          have KU := Go.Lib.hid kuV
          have KM := Go.Lib.hid kmV
          have KG := Go.Lib.hid kgV
          have HBV := Go.Lib.hid BV
          have w2c : V.drew.cell? ⟨w.heap.size, 2, none⟩ = some (.slice u2 k2 q2) := y0.cell 2
          have wgc : V.drew.cell? ⟨w.heap.size + 1 + 1, 0, none⟩ = some (.slice (some ⟨g5, 0, none⟩) (G.length + 1) p6) := yg.cell 0
          have wxc : V.drew.cell? ⟨g5, G.length, none⟩ = some (.int .u64 x) := rc3
          have lv0 := y0.lt
          have lvg := yg.lt
          have j0 : (0 : Int) ≤ (G.length : Int) := by omega
          have jb : (G.length : Int) ≤ 40000 := by have q1 := HGL.out; have q2 := HHI.out; have q3 := HHM.out; omega
          have j2 : IntKind.i64.wrap (G.length : Int) = (G.length : Int) := IntWalk.i64_in _ (by omega)
          have j3 : IntKind.i64.wrap ((G.length : Int) + 1 - 1) = (G.length : Int) := by rw [show (G.length : Int) + 1 - 1 = (G.length : Int) by omega]; exact j2
          have j4 : wrap64 (G.length : Int) = (G.length : Int) := by unfold wrap64; omega
          have j5 : ((G.length : Int)).toNat = G.length := Int.toNat_natCast _
          have j1 : (G.length : Int) < (G.length : Int) + 1 := by omega
          clear hku hkg hbg hou hog hF nb0 nb1 x0 x1 ko1 km1 B1 hV FV y0 y1 yg kuV koV kmV kgV BV rc3 rc1 rc2 hx5 HEV c0 c1 c2 c3
          go_wp2_with fail
          rw [← HV.out]
          refine wp_region_held_drew (S := fun W' => W'.cell? ⟨w.heap.size + 1 + 1, 0, none⟩ = some (.slice (some ⟨g5, 0, none⟩) (G.length + 1) p6) ∧ W'.cell? ⟨g5, G.length, none⟩ = some (.int .u64 x)) (by kernel_rfl) ⟨wgc, wxc⟩ (fun hHeld => ?_)
          refine wpAnyH_take (i := 0) (v := ?vb0) rfl (by kernel_rfl) (by kernel_rfl) (by kernel_rfl) (fun _ _ _ h => h) (Or.inl ⟨by rfl, ?hyb0⟩) (by assumption) ?restb0
          case hyb0 => intro w' hSw; (try dsimp only at hSw); go_simp; first | done | with_reducible rfl
          try simp only [Act.put, List.getElem_toArray, List.getElem_cons_succ, List.getElem_cons_zero, List.setIfInBounds_toArray, List.set_cons_zero, List.set_cons_succ]
          refine wpAnyH_take (i := 2) (v := ?vb2) rfl (by kernel_rfl) (by kernel_rfl) (by kernel_rfl) (fun _ _ _ h => h) (Or.inl ⟨by rfl, ?hyb2⟩) (by assumption) ?restb2
          case hyb2 => intro w' hSw; (try dsimp only at hSw); go_simp; first | done | with_reducible rfl
          try simp only [Act.put, List.getElem_toArray, List.getElem_cons_succ, List.getElem_cons_zero, List.setIfInBounds_toArray, List.set_cons_zero, List.set_cons_succ]
          refine wpAnyH_take (i := 3) (v := ?vb3) rfl (by kernel_rfl) (by kernel_rfl) (by kernel_rfl) (fun _ _ _ h => h) (Or.inl ⟨by rfl, ?hyb3⟩) (by assumption) ?restb3
          case hyb3 => intro w' hSw; (try dsimp only at hSw); go_simp; first | done | with_reducible rfl
          try simp only [Act.put, List.getElem_toArray, List.getElem_cons_succ, List.getElem_cons_zero, List.setIfInBounds_toArray, List.set_cons_zero, List.set_cons_succ]
          refine wpAnyH_take (i := 4) (v := ?vb4) rfl (by kernel_rfl) (by kernel_rfl) (by kernel_rfl) (fun _ _ _ h => h) (Or.inl ⟨by rfl, ?hyb4⟩) (by assumption) ?restb4
          case hyb4 => intro w' hSw; (try dsimp only at hSw); go_simp; first | done | with_reducible rfl
          try simp only [Act.put, List.getElem_toArray, List.getElem_cons_succ, List.getElem_cons_zero, List.setIfInBounds_toArray, List.set_cons_zero, List.set_cons_succ]
          refine wpAnyH_take (i := 5) (v := ?vb5) rfl (by kernel_rfl) (by kernel_rfl) (by kernel_rfl) (fun _ _ _ h => h) (Or.inl ⟨by rfl, ?hyb5⟩) (by assumption) ?restb5
          case hyb5 => intro w' hSw; (try dsimp only at hSw); go_simp; first | done | with_reducible rfl
          try simp only [Act.put, List.getElem_toArray, List.getElem_cons_succ, List.getElem_cons_zero, List.setIfInBounds_toArray, List.set_cons_zero, List.set_cons_succ]
          refine wpAnyH_take (i := 6) (v := ?vb6) rfl (by kernel_rfl) (by kernel_rfl) (by kernel_rfl) (fun _ _ _ h => h) (Or.inl ⟨by rfl, ?hyb6⟩) (by assumption) ?restb6
          case hyb6 => intro w' hSw; (try dsimp only at hSw); go_simp; first | done | with_reducible rfl
          try simp only [Act.put, List.getElem_toArray, List.getElem_cons_succ, List.getElem_cons_zero, List.setIfInBounds_toArray, List.set_cons_zero, List.set_cons_succ]
          refine wpAnyH_take (i := 7) (v := ?vb7) rfl (by kernel_rfl) (by kernel_rfl) (by kernel_rfl) (fun _ _ _ h => h) (Or.inl ⟨by rfl, ?hyb7⟩) (by assumption) ?restb7
          case hyb7 => intro w' hSw; (try dsimp only at hSw); go_simp; first | done | with_reducible rfl
          try simp only [Act.put, List.getElem_toArray, List.getElem_cons_succ, List.getElem_cons_zero, List.setIfInBounds_toArray, List.set_cons_zero, List.set_cons_succ]
          refine wpAnyH_ready (rs := [1]) (by kernel_rfl) (by simp) ?_
          refine AllReadyH.cons rfl (fun K hK => ?_) AllReadyH.nil
          go_simp
          refine hK.out _ _ (⟨wgc, wxc⟩) (fun hHeld => ?_)
          clear hK K
          try simp only [Act.put, List.getElem_toArray, List.getElem_cons_succ, List.getElem_cons_zero, List.setIfInBounds_toArray, List.set_cons_zero, List.set_cons_succ]
          refine wpAnyH_ready (rs := [8]) (by kernel_rfl) (by simp) ?_
          refine AllReadyH.cons rfl (fun K hK => ?_) AllReadyH.nil
          go_simp
          refine HFR.out.mono ?_
          rintro e w2 ⟨a7, n7, p7, rfl, hk7, ho7, hb7⟩
          have s7 := HS7.out w2 hb7
          refine hK.out _ _ (s7) (fun hHeld => ?_)
          clear hK K
          try simp only [Act.put, List.getElem_toArray, List.getElem_cons_succ, List.getElem_cons_zero, List.setIfInBounds_toArray, List.set_cons_zero, List.set_cons_succ]
          refine wpAnyH_take (i := 9) (v := ?vb9) rfl (by kernel_rfl) (by kernel_rfl) (by kernel_rfl) (fun _ _ _ h => h) (Or.inl ⟨by rfl, ?hyb9⟩) (by assumption) ?restb9
          case hyb9 => intro w' hSw; (try dsimp only at hSw); go_simp; first | done | with_reducible rfl
          try simp only [Act.put, List.getElem_toArray, List.getElem_cons_succ, List.getElem_cons_zero, List.setIfInBounds_toArray, List.set_cons_zero, List.set_cons_succ]
          have qb := Y0.out.drew.keep hb7
          have r0 := qb.cell 0
          have r1 := qb.cell 1
          have r2 := qb.cell 2
          have r3 := qb.cell 3
          have t2 := qb.frozen 2
          simp only [List.getElem?_cons_zero, List.getElem?_cons_succ] at r0 r1 r2 r3
          have rl := qb.lt
          refine wpAnyH_ready (rs := [10]) (by kernel_rfl) (by simp) ?_
          refine AllReadyH.cons rfl (fun K hK => ?_) AllReadyH.nil
          go_simp
          refine hK.out _ _ (HS8.out w2 _ hb7) (fun hHeld => ?_)
          clear hK K
          try simp only [Act.put, List.getElem_toArray, List.getElem_cons_succ, List.getElem_cons_zero, List.setIfInBounds_toArray, List.set_cons_zero, List.set_cons_succ]
          refine wpAnyH_done (by kernel_rfl) ?_ _
          obtain ⟨V2, hV2⟩ : ∃ V2, V2 = w2.setCell ⟨w.heap.size, 2, none⟩ (.slice a7 n7 p7) := ⟨_, rfl⟩
          have F2 : Fr (fun k => k = w.heap.size) w2 V2 := by rw [hV2]; exact (Fr.refl (fun k => k = w.heap.size) w2).setEq rfl _
          have z0 : Blk V2 w.heap.size (twC c (.slice u n5 p5) (.slice a7 n7 p7) (.slice u3 m'.length q3)) 66 := by rw [hV2]; exact qb.set 2 _
          have z1' : Blk V2 (w.heap.size + 1) (twC 0 (.slice none 0 0) (.slice none 0 0) (.slice none 0 0)) 66 := by rw [hV2]; exact (Y1.out.drew.keep hb7).set_ne (a := ⟨w.heap.size, 2, none⟩) (show w.heap.size + 1 ≠ w.heap.size by omega) _
          have zg : Blk V2 (w.heap.size + 1 + 1) [.slice (some ⟨g5, 0, none⟩) (G.length + 1) p6] 26 := by rw [hV2]; exact (YG.out.drew.keep hb7).set_ne (a := ⟨w.heap.size, 2, none⟩) (show w.heap.size + 1 + 1 ≠ w.heap.size by omega) _
          have KU2 := (KU.out.keep (Below.refl _ _).drew).keep hb7
          have KM2 := (KM.out.keep (Below.refl _ _).drew).keep hb7
          have KG2 := (KG.out.keep (Below.refl _ _).drew).keep hb7
          have KU3 := KU2.fr2 F2 (fun g hg e => KU2.ne qb (by decide) g hg e)
          have KM3 := KM2.fr2 F2 (fun g hg e => KM2.ne qb (by decide) g hg e)
          have KG3 := KG2.fr2 F2 (fun g hg e => KG2.ne qb (by decide) g hg e)
          have KO3 := hk7.fr2 F2 (fun g hg e => hk7.ne qb (by decide) g hg e)
          have BV2 := below_fr (HBV.out.trans (((Below.refl _ _).drew.trans hb7).mono HBV.out.size)) F2 (Nat.le_refl _) (fun i hi => by omega)
          have HFG := Go.Lib.hid (twforget_any c u a7 u3 n5 n7 m'.length p5 p7 q3 (x :: wo o' x) V2 hc0 hc1 (by have q1 := HOL.out; have q2 := HO.out; have q3 := HHI.out; have q4 := HHM.out; have q5 := wo_len o' x; simp; omega) KO3)
          have Z0 := Go.Lib.hid z0
          have Z1 := Go.Lib.hid z1'
          have ZG := Go.Lib.hid zg
          have HU3 := Go.Lib.hid KU3
          have HM3 := Go.Lib.hid KM3
          have HG3 := Go.Lib.hid KG3
          have HV2 := Go.Lib.hid BV2
          have e0 := z0.cell 0
          have e1' := z0.cell 1
          have e2 := z0.cell 2
          have e3 := z0.cell 3
          simp only [List.getElem?_cons_zero, List.getElem?_cons_succ] at e0 e1' e2 e3
          have le0 := z0.lt
          rw [← hV2]
          clear hV2 F2 z0 z1' zg KU2 KM2 KG2 KU3 KM3 KG3 KO3 BV2 qb r0 r1 r2 r3 t2 rl hk7 ho7 hb7 s7 w2c wgc wxc e1 f1 HS7 HS8
          go_wp2_with fail
          refine HFG.out.mono ?_
          rintro e w3 ⟨a8, n8, p8, rfl, hk8, ho8, hb8⟩
          have x3 := Z0.out.keep hb8
          obtain ⟨V3, hV3⟩ : ∃ V3, V3 = (((w3.setCell ⟨w.heap.size, 0, none⟩ (.int .i64 c)).setCell ⟨w.heap.size, 1, none⟩ (.slice u n5 p5)).setCell ⟨w.heap.size, 2, none⟩ (.slice a8 n8 p8)).setCell ⟨w.heap.size, 3, none⟩ (.slice u3 m'.length q3) := ⟨_, rfl⟩
          have F3 : Fr (fun k => k = w.heap.size) w3 V3 := by rw [hV3]; exact ((((Fr.refl (fun k => k = w.heap.size) w3).setEq rfl _).setEq rfl _).setEq rfl _).setEq rfl _
          have KU4 := HU3.out.keep hb8
          have KM4 := HM3.out.keep hb8
          have KG4 := HG3.out.keep hb8
          have RS : ShI w V3 c i2 ((x :: wo o' x).take (c / 2).toNat) m' (G ++ [x]) := by
            refine ⟨u, n5, p5, a8, n8, p8, u3, m'.length, q3, some ⟨g5, 0, none⟩, G.length + 1, p6, ?_⟩
            refine ⟨by rw [hV3]; exact (((x3.set 0 _).set 1 _).set 2 _).set 3 _, F3.blk (fun e => by omega) (Z1.out.keep hb8), F3.blk (fun e => by omega) (ZG.out.keep hb8), KU4.fr2 F3 (fun g hg e => KU4.ne x3 (by decide) g hg e), hk8.fr2 F3 (fun g hg e => hk8.ne x3 (by decide) g hg e), KM4.fr2 F3 (fun g hg e => KM4.ne x3 (by decide) g hg e), KG4.fr2 F3 (fun g hg e => KG4.ne x3 (by decide) g hg e), fun b hb => ⟨(OG.out b hb).1, (OG.out b hb).2.1, (fun e => by have q1 := ho8 b e; have q2 := (HG3.out.lt hb).1; omega), (OG.out b hb).2.2⟩, below_fr (HV2.out.trans (hb8.mono HV2.out.size)) F3 (Nat.le_refl _) (fun i hi => by omega)⟩
          have HRS := Go.Lib.hid RS
          have s0 := x3.cell 0
          have s1 := x3.cell 1
          have s2 := x3.cell 2
          have s3 := x3.cell 3
          have t0 := x3.frozen 0
          have t1 := x3.frozen 1
          have t2 := x3.frozen 2
          have t3 := x3.frozen 3
          simp only [List.getElem?_cons_zero, List.getElem?_cons_succ] at s0 s1 s2 s3
          have ls := x3.lt
          have HV3 := Go.Lib.hid hV3
          clear RS hV3 F3 KU4 KM4 KG4 x3 hk8 ho8 hb8 HFG e0 e1' e2 e3
          go_wp2_with fail
          rw [← HV3.out]
          go_roundg f
          case rel =>
            have g1 := HREC.out
            have g2 := HE1.out
            have g3 := HE2.out
            rw [g1] at g2 g3
            have g4 := HL2.out
            have g5 := HHG.out
            refine ⟨i2, _, m', G ++ [x], (shrT n f ⟨c, i2, (x :: wo o' x).take (c / 2).toNat, m'⟩).2, HFL.out, HGF.out, HOF.out, by rw [g2], ?_, HRS.out⟩
            rw [← HGO.out, g3]; simp
          case measure => exact Nat.lt_succ_self f
        · obtain ⟨m2, x, hm2⟩ : ∃ m2 x, m' = m2 ++ [x] := snoc_of_ne hm0
          have hrec : reclT ⟨c, i', o', m'⟩ = (⟨c, i', o', m2⟩, x) := by rw [hm2]; exact reclT_main c i' o' m2 x hc5
          have HREC := Go.Lib.hid hrec
          have hm1 : ((m'.length : Int) == 0) = false := by rw [hm2, List.length_append, List.length_singleton]; simp; omega
          have hl2 : m2.length + 1 = m'.length := by rw [hm2]; simp
          have HFL := Go.Lib.hid (show i'.length + m2.length = f by have := HHG.out; omega)
          have HGF := Go.Lib.hid (show (G ++ [x]).length + f ≤ z1 + z3 by have := HGL.out; rw [List.length_append, List.length_singleton]; omega)
          have HOF := Go.Lib.hid (show o'.length + f ≤ o.length + (z1 + z3) by have q := HOL.out; omega)
          have HEV := Go.Lib.hid (twevict_any (w.heap.size + 1 + 1) (.slice u3 m'.length q3) m2 x G u4 k4 q4 wr (by have := HLEN.out; omega) (by have q1 := HGL.out; have q2 := HHI.out; have q3 := HHM.out; omega) (by rw [← hm2]; exact HQ.out.km) HQ.out.kg HQ.out.bg)
          clear hm2 hrec hl2 hm0 s0 s1 s2 s3 f0 f1 f2 f3 cg
          go_wp2_with fail
          refine HEV.out.mono ?_
          rintro e w1 ⟨u, n5, p5, u5, n6, p6, rfl, hku, hkg, hbg, hou, hog, hF⟩
          have hn6 : n6 = G.length + 1 := by
            obtain ⟨a, cp, e⟩ := hkg.form
            injection e with e1 e2 e3
            rw [e2]; simp
          subst hn6
          have nb0 : (Value.slice u4 k4 q4).ownBlock ≠ some w.heap.size := fun e => HQ.out.kg.ne HQ.out.b0 (by decide) _ e rfl
          have nb1 : (Value.slice u4 k4 q4).ownBlock ≠ some (w.heap.size + 1) := fun e => HQ.out.kg.ne HQ.out.b1 (by decide) _ e rfl
          have x0 := hF.blk (fun e => e.elim (fun e => by omega) nb0) HQ.out.b0
          have x1 := hF.blk (fun e => e.elim (fun e => by omega) nb1) HQ.out.b1
          have hFs := hF.size
          have ki1 : KL w1 (.slice u1 i'.length q1) i' := HQ.out.ki.fr2 hF (fun g hg e => e.elim (fun e => HQ.out.ki.ne HQ.out.bg (by decide) g hg e) (fun e => (HQ.out.og g e).2.1 hg))
          have ko1 : KL w1 (.slice u2 k2 q2) o' := HQ.out.ko.fr2 hF (fun g hg e => e.elim (fun e => HQ.out.ko.ne HQ.out.bg (by decide) g hg e) (fun e => (HQ.out.og g e).2.2.1 hg))
          have B1 : Below w.heap.size w w1 := below_fr HQ.out.hb hF (Nat.le_refl _) (fun i hi => hi.elim (fun e => by omega) (fun e => (HQ.out.og i e).1))
          obtain ⟨V, hV⟩ : ∃ V, V = w1.setCell ⟨w.heap.size, 3, none⟩ (.slice u n5 p5) := ⟨_, rfl⟩
          have FV : Fr (fun k => k = w.heap.size) w1 V := by rw [hV]; exact (Fr.refl (fun k => k = w.heap.size) w1).setEq rfl _
          have y0 : Blk V w.heap.size (twC c (.slice u1 i'.length q1) (.slice u2 k2 q2) (.slice u n5 p5)) 66 := by rw [hV]; exact x0.set 3 _
          have RS : ShI w V c i' o' m2 (G ++ [x]) := by
            refine ⟨u1, i'.length, q1, u2, k2, q2, u, n5, p5, u5, G.length + 1, p6, ?_⟩
            refine ⟨y0, FV.blk (fun e => by omega) x1, FV.blk (fun e => by omega) hbg, ki1.fr2 FV (fun g hg e => ki1.ne x0 (by decide) g hg e), ko1.fr2 FV (fun g hg e => ko1.ne x0 (by decide) g hg e), hku.fr2 FV (fun g hg e => hku.ne x0 (by decide) g hg e), hkg.fr2 FV (fun g hg e => hkg.ne x0 (by decide) g hg e), fun b q => ⟨(hog b q).1.elim (fun e => (HQ.out.og b e).1) (fun e => by have := HQ.out.hb.size; omega), (fun e => (hog b q).1.elim (fun h => (HQ.out.og b h).2.1 e) (fun h => by have := (HQ.out.ki.lt e).1; omega)), (fun e => (hog b q).1.elim (fun h => (HQ.out.og b h).2.2.1 e) (fun h => by have := (HQ.out.ko.lt e).1; omega)), (hog b q).2⟩, below_fr B1 FV (Nat.le_refl _) (fun i hi => by omega)⟩
          have HRS := Go.Lib.hid RS
          have e3 := x0.cell 3
          have t3 := x0.frozen 3
          have m0 := x0.lt
          simp only [List.getElem?_cons_zero, List.getElem?_cons_succ] at e3
          have HV := Go.Lib.hid hV
          clear RS hV FV y0 x0 x1 ki1 ko1 B1 hku hkg hbg hou hog hF nb0 nb1 HEV c0 c1 c2 c3
          go_wp2_with fail
          rw [← HV.out]
          go_roundg f
          case rel =>
            have g1 := HREC.out
            have g2 := HE1.out
            have g3 := HE2.out
            rw [g1] at g2 g3
            refine ⟨i', o', m2, G ++ [x], (shrT n f ⟨c, i', o', m2⟩).2, HFL.out, HGF.out, HOF.out, by rw [g2], ?_, HRS.out⟩
            rw [← HGO.out, g3]; simp
          case measure => exact Nat.lt_succ_self f
end Go.Proofs.Ytlakojncjldpbaa
