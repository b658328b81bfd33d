/- The cache of two queues over a store: State, Keys, Admit, Resize; of none at all. -/
import Derived.Test.YtlakojncjldpbaaTqd
import Derived.Test.YtlakojncjldpbaaGApp
import Derived.Test.YtlakojncjldpbaaRef9
namespace Go.Proofs.Ytlakojncjldpbaa
open Go.RowKit Hop
set_option linter.unusedVariables false
set_option linter.unusedSimpArgs false
set_option maxRecDepth 100000
section
variable {ps : Nat} {O : Nat → Prop} {p : Nat} {s : TS}
set_option maxHeartbeats 3200000 in
theorem tstate_any (px : Nat) (w : World) (H : Tqa w px O s p) :
    Calls Try.prog 47 #[P0 px] w fun e w' => ∃ v1 v2 v3, e = .returned (.agg #[.int .i64 s.c, v1, v2, v3]) ∧ KL w' v1 s.i ∧ KL w' v2 s.o ∧ KL w' v3 s.m ∧ Below w.heap.size w w' := by
  obtain ⟨ps, O1, hx, hs, hn, rfl⟩ := H
  obtain ⟨c, i, o, m⟩ := s
  simp only at hx hs ⊢
  have A0 := (Below.refl w.heap.size w).alloc (Nat.le_refl _) (.cells #[.int .i64 0, .slice none 0 0, .slice none 0 0, .slice none 0 0] 66)
  obtain ⟨W, hW⟩ : ∃ W, W = w.alloc (.cells #[.int .i64 0, .slice none 0 0, .slice none 0 0, .slice none 0 0] 66) := ⟨_, rfl⟩
  have b0 : Blk W w.heap.size [.int .i64 0, .slice none 0 0, .slice none 0 0, .slice none 0 0] 66 := by rw [hW]; exact Blk.new0 w [.int .i64 0, .slice none 0 0, .slice none 0 0, .slice none 0 0] 66
  rw [← hW] at A0
  have xW := hx.keep A0
  have sW := hs.keep A0
  have hBd : Below W.heap.size W W.drew := (Below.refl _ _).drew
  have HA0 := Go.Lib.hid A0
  have HW := Go.Lib.hid hW
  have Hb0 := Go.Lib.hid b0
  have HBd := Go.Lib.hid hBd
  have HK0 : Hid (Calls Try.prog 116 #[P0 ps, .int .i64 0] W.drew fun e w' => ∃ v, e = .returned v ∧ KL w' v i ∧ Below W.drew.heap.size W.drew w') := Go.Lib.hid ((keys_k 0 W.drew (by simp) (sW.keep hBd)).mono (fun e w' ⟨v, h1, h2, h3, h4⟩ => ⟨v, h1, h2, h4⟩))
  have HK1 : Hid (∀ u, Below W.drew.heap.size W.drew u → Calls Try.prog 116 #[P0 ps, .int .i64 1] u fun e w' => ∃ v, e = .returned v ∧ KL w' v o ∧ Below W.drew.heap.size W.drew w') := Go.Lib.hid (fun u hu => (keys_k 1 u (by simp) (sW.keep (hBd.trans hu))).mono (fun e w' ⟨v, h1, h2, h3, h4⟩ => ⟨v, h1, h2, hu.trans (h4.mono hu.size)⟩))
  have HK2 : Hid (∀ u, Below W.drew.heap.size W.drew u → Calls Try.prog 116 #[P0 ps, .int .i64 2] u fun e w' => ∃ v, e = .returned v ∧ KL w' v m ∧ Below u.heap.size u w' ∧ Below W.drew.heap.size W.drew w') := Go.Lib.hid (fun u hu => (keys_k 2 u (by simp) (sW.keep (hBd.trans hu))).mono (fun e w' ⟨v, h1, h2, h3, h4⟩ => ⟨v, h1, h2, h4, hu.trans (h4.mono hu.size)⟩))
  have HK1' : Hid (∀ u, Below W.drew.heap.size W.drew u → Calls Try.prog 116 #[P0 ps, .int .i64 1] u fun e w' => ∃ v, e = .returned v ∧ KL w' v o ∧ Below u.heap.size u w' ∧ Below W.drew.heap.size W.drew w') := Go.Lib.hid (fun u hu => (keys_k 1 u (by simp) (sW.keep (hBd.trans hu))).mono (fun e w' ⟨v, h1, h2, h3, h4⟩ => ⟨v, h1, h2, h4, hu.trans (h4.mono hu.size)⟩))
  have ne : px ≠ w.heap.size := by have := hx.lt; omega
  have SS : ∀ W', Blk W' px [P0 ps, .int .i64 c] 121 → (W'.cell? ⟨px, 0, none⟩ = some (P0 ps) ∧ W'.cell? ⟨px, 1, none⟩ = some (.int .i64 c)) := fun W' h => ⟨h.cell 0, h.cell 1⟩
  have HS1 := Go.Lib.hid (fun W' (hb : Below W.drew.heap.size W.drew W') => SS W' (xW.keep (hBd.trans hb)))
  have HS4 := Go.Lib.hid (fun W' u0 u1 u2 u3 (hb : Below W.drew.heap.size W.drew W') => SS _ (((((xW.keep (hBd.trans hb)).set_ne (a := ⟨w.heap.size, 0, none⟩) ne u0).set_ne (a := ⟨w.heap.size, 1, none⟩) ne u1).set_ne (a := ⟨w.heap.size, 2, none⟩) ne u2).set_ne (a := ⟨w.heap.size, 3, none⟩) ne u3))
  have HS0 := Go.Lib.hid (SS _ (xW.keep hBd))
  have lx := xW.lt
  clear hW b0 A0 hx hs hn xW sW SS hBd HK1
  go_enter Try.func47, Try.ntmps47
  go_wp2_with fail
  rw [← HW.out]
  go_region_held3 (fun W' => W'.cell? ⟨px, 0, none⟩ = some (P0 ps) ∧ W'.cell? ⟨px, 1, none⟩ = some (.int .i64 c))
    (first | with_reducible exact HS4.out _ _ _ _ _ hb3 | with_reducible exact HS1.out _ hb3 | with_reducible exact HS1.out _ hb2 | with_reducible exact HS1.out _ hb1 | exact HS0.out)
    (first | (have q := hb2; go_at_call 116; refine (HK2.out _ q).mono ?_; rintro e w3 ⟨v3, rfl, hr3, hb3', hb3⟩; obtain ⟨a3, p3, rfl⟩ := hr3.form; have b1 := Hb0.out.keep (HBd.out.trans hb3); have d0 := b1.cell 0; have d1 := b1.cell 1; have d2 := b1.cell 2; have d3 := b1.cell 3; have f0 := b1.frozen 0; have f1 := b1.frozen 1; have f2 := b1.frozen 2; have f3 := b1.frozen 3; simp only [List.getElem?_cons_zero, List.getElem?_cons_succ] at d0 d1 d2 d3; have l3 := b1.lt) | (have q := hb1; go_at_call 116; refine (HK1'.out _ q).mono ?_; rintro e w2 ⟨v2, rfl, hr2, hb2', hb2⟩; obtain ⟨a2, p2, rfl⟩ := hr2.form) | (go_at_call 116; refine HK0.out.mono ?_; rintro e w1 ⟨v1, rfl, hr1, hb1⟩; obtain ⟨a1, p1, rfl⟩ := hr1.form))
  have J3 := Go.Lib.hid hr3
  have J2 := Go.Lib.hid (hr2.keep hb3')
  have J1 := Go.Lib.hid ((hr1.keep hb2').keep hb3')
  have Jb := Go.Lib.hid b1
  have HB1 := Go.Lib.hid (HA0.out.trans ((HBd.out.trans hb3).mono HA0.out.size))
  clear b1 hr1 hr2 hr3 hb1 hb2 hb2' hb3 hb3'
  generalize i.length = l1 at *
  generalize o.length = l2 at *
  generalize m.length = l4 at *
  go_wp2_with fail
  refine bodyPost_ret (v := .agg #[.int .i64 c, .slice a1 l1 p1, .slice a2 l2 p2, .slice a3 l4 p3]) (by simp [results, Try.results47, go_sem, d0, d1, d2, d3]) rfl ⟨_, _, _, rfl, ?_, ?_, ?_, ?_⟩
  · exact J1.out.two Jb.out Jb.out (by decide) (by decide) (by repeat' (first | exact Fr.refl _ _ | refine Fr.setEq ?_ ?_ _ | exact .inl rfl | exact .inr rfl))
  · exact J2.out.two Jb.out Jb.out (by decide) (by decide) (by repeat' (first | exact Fr.refl _ _ | refine Fr.setEq ?_ ?_ _ | exact .inl rfl | exact .inr rfl))
  · exact J3.out.two Jb.out Jb.out (by decide) (by decide) (by repeat' (first | exact Fr.refl _ _ | refine Fr.setEq ?_ ?_ _ | exact .inl rfl | exact .inr rfl))
  · repeat' (first | exact HB1.out | refine below_set ?_ ?_ _ | omega)
set_option maxHeartbeats 1600000 in
theorem tkeys_any (px : Nat) (w : World) (H : Tqa w px O s p) :
    Calls Try.prog 49 #[P0 px] w fun e w' => ∃ v, e = .returned v ∧ KL w' v (s.i ++ s.m) ∧ Below w.heap.size w w' := by
  have hl := H.len
  have hlen : s.i.length + s.m.length < 100000 := by omega
  have HS := Go.Lib.hid (tstate_any px w H)
  have HL := Go.Lib.hid hlen
  clear H hl hlen
  go_enter Try.func49, Try.ntmps49
  go_wp2_with fail
  refine HS.out.mono ?_
  rintro e w1 ⟨v1, v2, v3, rfl, h1, h2, h3, hb⟩
  obtain ⟨a1, p1, rfl⟩ := h1.form
  obtain ⟨a2, p2, rfl⟩ := h2.form
  obtain ⟨a3, p3, rfl⟩ := h3.form
  have A1 := (Below.refl w1.heap.size w1).alloc (Nat.le_refl _) (.cells #[.int .i64 s.c, .slice a1 s.i.length p1, .slice a2 s.o.length p2, .slice a3 s.m.length p3] 66)
  have A2 := A1.alloc (by simp) (.cells #[.slice a1 s.i.length p1, .slice a3 s.m.length p3] 26)
  have HCC := Go.Lib.hid (sconcat2_any (w1.heap.size + 1) (.slice a1 s.i.length p1) (.slice a3 s.m.length p3) s.i s.m _ HL.out (Blk.new1 w1 (.cells #[.int .i64 s.c, .slice a1 s.i.length p1, .slice a2 s.o.length p2, .slice a3 s.m.length p3] 66) [.slice a1 s.i.length p1, .slice a3 s.m.length p3] 26) (h1.keep A2) (h3.keep A2))
  have HB1 := Go.Lib.hid (hb.trans (A2.mono hb.size))
  clear h1 h2 h3 hb A1 A2
  go_wp2_with fail
  refine HCC.out.mono ?_
  rintro e w2 ⟨v, rfl, hk, hb2⟩
  have HK := Go.Lib.hid hk
  have HB2 := Go.Lib.hid (HB1.out.trans (hb2.mono HB1.out.size))
  clear hk hb2
  go_wp2_with fail
  go_ret
  exact ⟨_, rfl, HK.out, HB2.out⟩
end
end Go.Proofs.Ytlakojncjldpbaa

namespace Go.Proofs.Ytlakojncjldpbaa
open Go.RowKit Hop
set_option linter.unusedVariables false
set_option linter.unusedSimpArgs false
set_option maxRecDepth 100000
section
variable {ps : Nat} {O : Nat → Prop} {p : Nat} {s : TS}
set_option maxHeartbeats 3200000 in
theorem tadmit_any (px : Nat) (k : Int) (w : World) (hk0 : 0 ≤ k) (hk1 : k < 18446744073709551616) (hs : s.ok) (hp : p < 49999) (H : Tqa w px O s p) :
    Calls Try.prog 58 #[P0 px, .int .u64 k] w fun e w' => ∃ vo O' p', e = .returned vo ∧ KL w' vo (admitT s k).2 ∧ Tqa w' px O' (admitT s k).1 p' ∧ Chg O O' w w' ∧ (p' : Int) ≤ max (p : Int) (2 * s.c) := by
  obtain ⟨c, i, o, m⟩ := s
  obtain ⟨hs1, hs2, hs3, hs4⟩ := hs
  simp only at hs1 hs2 hs3 hs4 ⊢
  have HT : Hid (admitT ⟨c, i, o, m⟩ k = if k ∈ i ++ m then (⟨c, i, o, m⟩, []) else if k ∈ o then (⟨c, (shrT (c - 1) (i.length + m.length) ⟨c, i, wo o k, m⟩).1.i, (shrT (c - 1) (i.length + m.length) ⟨c, i, wo o k, m⟩).1.o, k :: wo (shrT (c - 1) (i.length + m.length) ⟨c, i, wo o k, m⟩).1.m k⟩, (shrT (c - 1) (i.length + m.length) ⟨c, i, wo o k, m⟩).2) else (⟨c, k :: wo (shrT (c - 1) (i.length + m.length) ⟨c, i, wo o k, m⟩).1.i k, (shrT (c - 1) (i.length + m.length) ⟨c, i, wo o k, m⟩).1.o, (shrT (c - 1) (i.length + m.length) ⟨c, i, wo o k, m⟩).1.m⟩, (shrT (c - 1) (i.length + m.length) ⟨c, i, wo o k, m⟩).2)) := Go.Lib.hid rfl
  have HE := Go.Lib.hid (thas_any px k w hk0 hk1 H)
  have HH := Go.Lib.hid H
  clear H
  go_enter Try.func58, Try.ntmps58
  go_wp2_with fail
  refine HE.out.mono ?_
  by_cases hk : k ∈ i ++ m
  · have hd : decide (k ∈ i ++ m) = true := decide_eq_true hk
    rw [hd]
    rw [if_pos hk] at HT
    clear hd hk
    rintro e w1 ⟨rfl, hb⟩
    have HB := Go.Lib.hid hb
    clear hb
    go_wp2_with fail
    go_ret
    refine ⟨_, O, p, rfl, ?_, ?_, Chg.of_below HB.out, by omega⟩
    · rw [HT.out]; exact KL.nil _
    · rw [HT.out]; exact HH.out.keep HB.out
  · have hd : decide (k ∈ i ++ m) = false := decide_eq_false hk
    rw [hd]
    rw [if_neg hk] at HT
    have hki : k ∉ i := fun h => hk (List.mem_append_left _ h)
    have hkm : k ∉ m := fun h => hk (List.mem_append_right _ h)
    clear hd hk
    rintro e w1 ⟨rfl, hb⟩
    obtain ⟨ps, O1, hx, hst, hn, hOO⟩ := HH.out.keep hb
    simp only at hx hst
    have c0 := hx.cell 0
    have c1 := hx.cell 1
    simp only [List.getElem?_cons_zero, List.getElem?_cons_succ] at c0 c1
    have hrm : [i, o, m].map (fun L => wo L k) = [i, wo o k, m] := by
      simp only [List.map_cons, List.map_nil]
      rw [wo_id hki, wo_id hkm]
    have hfl : decide (k ∈ [i, o, m].flatten) = decide (k ∈ o) := by
      apply decide_eq_decide.2
      simp [hki, hkm]
    have HRM := remove_k k w1 hk0 hk1 hst
    rw [hrm, hfl] at HRM
    have HRM := Go.Lib.hid HRM
    have HSK := Go.Lib.hid (fun w' O2 hx hn h => tqshrink_any (ps := ps) (O := O2) (p := p) px c i (wo o k) m (c - 1) w' ⟨hs1, by omega⟩ ⟨by omega, by omega⟩ hx hn h)
    obtain ⟨s1, s2, s3, s4, s5, s6, s7⟩ := shrT_props (c - 1) c (by omega) (i.length + m.length) i (wo o k) m rfl
    have hwl := wo_len o k
    have hkd : k ∉ (shrT (c - 1) (i.length + m.length) ⟨c, i, wo o k, m⟩).1.i ∧ k ∉ (shrT (c - 1) (i.length + m.length) ⟨c, i, wo o k, m⟩).1.o ∧ k ∉ (shrT (c - 1) (i.length + m.length) ⟨c, i, wo o k, m⟩).1.m :=
      ⟨fun h => hki (s3 k h), fun h => (s5 k h).elim (fun h => (mem_wo.1 h).2 rfl) hki, fun h => hkm (s4 k h)⟩
    generalize shrT (c - 1) (i.length + m.length) ⟨c, i, wo o k, m⟩ = R at *
    obtain ⟨⟨rc, ri, ro, rm⟩, rg⟩ := R
    simp only at HSK HT hkd s2 s6
    obtain ⟨hd1, hd2, hd3⟩ := hkd
    have hsz : ((ri.length + ro.length + rm.length + 1 : Nat) : Int) ≤ 2 * c := by omega
    have HSZ := Go.Lib.hid hsz
    rw [wo_id hd1, wo_id hd3] at HT
    have hko : ∃ t : Bool, decide (k ∈ o) = t ∧ (t = true ↔ k ∈ o) := ⟨_, rfl, decide_eq_true_iff⟩
    obtain ⟨t, ht, hti⟩ := hko
    rw [ht] at HRM
    have HTI := Go.Lib.hid hti
    have HX := Go.Lib.hid hx
    have HN := Go.Lib.hid hn
    have HOO := Go.Lib.hid hOO
    have HB := Go.Lib.hid hb
    have hxl := hx.lt
    have HD : Hid (k ∉ [ri, ro, rm].flatten) := Go.Lib.hid (by simp [hd1, hd2, hd3])
    clear hb hx hst hn hOO hrm hfl ht hti s1 s2 s3 s4 s5 s6 s7 hwl hd1 hd2 hd3 hsz hki hkm
    go_wp2_with fail
    refine HRM.out.mono ?_
    rintro e w2 ⟨rfl, O2, hst2, hch2⟩
    have hx2 := hch2.blk HN.out HX.out
    have hn2 := hch2.not hxl HN.out
    have d0 := hx2.cell 0
    have d1 := hx2.cell 1
    simp only [List.getElem?_cons_zero, List.getElem?_cons_succ] at d0 d1
    have HSU := Go.Lib.hid (HSK.out w2 O2 hx2 hn2 hst2)
    have HX2 := Go.Lib.hid hx2
    have HN2 := Go.Lib.hid hn2
    have HC2 := Go.Lib.hid hch2
    clear hst2 hch2 hx2 hn2 c0 c1
    cases t
    all_goals
      go_wp2_with fail
      refine HSU.out.mono ?_
      rintro e w3 ⟨vo, O3, rfl, hst3, hch3, hko3, hoo3⟩
      have hx3 := hch3.blk HN2.out HX2.out
      have e0 := hx3.cell 0
      have e1 := hx3.cell 1
      simp only [List.getElem?_cons_zero, List.getElem?_cons_succ] at e0 e1
      have HX3 := Go.Lib.hid hx3
      have HN3 := Go.Lib.hid (hch3.not HX2.out.lt HN2.out)
      have HC3 := Go.Lib.hid (HC2.out.trans hch3)
      have HKO := Go.Lib.hid hko3
      have HO3 := Go.Lib.hid hoo3
      have HST3 := Go.Lib.hid hst3
      clear hx3 hch3 hko3 hoo3 hst3 d0 d1
    · have HPF := Go.Lib.hid (push_k 0 k w3 hk0 hk1 (by simp) hp HD.out HST3.out)
      go_wp2_with fail
      refine HPF.out.mono ?_
      rintro e w4 ⟨rfl, O4, hs4, hc4⟩
      have HS4 := Go.Lib.hid hs4
      have HC4 := Go.Lib.hid hc4
      clear hs4 hc4
      go_wp2_with fail
      go_ret
      have hko : k ∉ o := fun h => by simpa using HTI.out.2 h
      have hT := HT.out
      rw [if_neg hko] at hT
      refine ⟨_, _, _, rfl, ?_, ⟨ps, O4, by rw [hT]; exact HC4.out.blk HN3.out HX3.out, by rw [hT]; exact HS4.out, HC4.out.not HX3.out.lt HN3.out, rfl⟩, ?_, ?_⟩
      · rw [hT]; exact Row.frame HKO.out HC4.out.fr (fun b hb => (HO3.out b hb).2)
      · rw [HOO.out]; exact (Chg.of_below HB.out).trans (chg_up px (HC3.out.trans HC4.out))
      · have := HSZ.out
        simp only [List.map_cons, List.map_nil, List.sum_cons, List.sum_nil]
        omega
    · have HPF := Go.Lib.hid (push_k 2 k w3 hk0 hk1 (by simp) hp HD.out HST3.out)
      go_wp2_with fail
      refine HPF.out.mono ?_
      rintro e w4 ⟨rfl, O4, hs4, hc4⟩
      have HS4 := Go.Lib.hid hs4
      have HC4 := Go.Lib.hid hc4
      clear hs4 hc4
      go_wp2_with fail
      go_ret
      have hko : k ∈ o := HTI.out.1 (by first | rfl | trivial)
      have hT := HT.out
      rw [if_pos hko] at hT
      refine ⟨_, _, _, rfl, ?_, ⟨ps, O4, by rw [hT]; exact HC4.out.blk HN3.out HX3.out, by rw [hT]; exact HS4.out, HC4.out.not HX3.out.lt HN3.out, rfl⟩, ?_, ?_⟩
      · rw [hT]; exact Row.frame HKO.out HC4.out.fr (fun b hb => (HO3.out b hb).2)
      · rw [HOO.out]; exact (Chg.of_below HB.out).trans (chg_up px (HC3.out.trans HC4.out))
      · have := HSZ.out
        simp only [List.map_cons, List.map_nil, List.sum_cons, List.sum_nil]
        omega
set_option maxHeartbeats 1600000 in
theorem tresize_any (px : Nat) (n : Int) (w : World) (H : Tqa w px O s p) :
    Calls Try.prog 59 #[P0 px, .int .i64 n] w fun e w' => ∃ vo O', e = .returned vo ∧ KL w' vo (resizeT s n).2 ∧ Tqa w' px O' (resizeT s n).1 p ∧ Chg O O' w w' := by
  obtain ⟨c, i, o, m⟩ := s
  obtain ⟨hc1, hc2⟩ := capF_in n
  have HT : Hid (resizeT ⟨c, i, o, m⟩ n = (⟨capF n, (shrT (capF n) (i.length + m.length) ⟨capF n, i, o, m⟩).1.i, (shrT (capF n) (i.length + m.length) ⟨capF n, i, o, m⟩).1.o.take (capF n / 2).toNat, (shrT (capF n) (i.length + m.length) ⟨capF n, i, o, m⟩).1.m⟩, (shrT (capF n) (i.length + m.length) ⟨capF n, i, o, m⟩).2)) := Go.Lib.hid rfl
  have HLN := Go.Lib.hid (fun w => twnew_any n w)
  generalize capF n = cf at *
  obtain ⟨ps, O1, hx, hs, hn, rfl⟩ := H
  simp only at hx hs
  have HSK := Go.Lib.hid (fun w' O2 hx hn h => tqshrink_any (ps := ps) (O := O2) (p := p) px cf i o m cf w' ⟨hc1, hc2⟩ ⟨by omega, hc2⟩ hx hn h)
  generalize shrT cf (i.length + m.length) ⟨cf, i, o, m⟩ = R at *
  obtain ⟨⟨rc, ri, ro, rm⟩, rg⟩ := R
  simp only at HSK HT
  have HFG := Go.Lib.hid (fun w' O2 hx hn h => tforget_any (ps := ps) (O := O2) (p := p) px cf ri ro rm w' ⟨by omega, hc2⟩ hx hn h)
  have f0 := twS_c
  have HX := Go.Lib.hid hx
  have HS := Go.Lib.hid hs
  have HN := Go.Lib.hid hn
  have hxl := hx.lt
  clear hx hs hn
  go_enter Try.func59, Try.ntmps59
  go_wp2_with fail
  refine (HLN.out _).mono ?_
  rintro e w1 ⟨rfl, hb⟩
  have hx1 := HX.out.keep hb
  have c0 := hx1.cell 0
  have c1 := hx1.cell 1
  have f1 := hx1.frozen 1
  simp only [List.getElem?_cons_zero, List.getElem?_cons_succ] at c0 c1
  have hxl1 := hx1.lt
  have X2 : Blk (w1.setCell ⟨px, 1, none⟩ (.int .i64 cf)) px [P0 ps, .int .i64 cf] 121 := hx1.set 1 (.int .i64 cf)
  have S2 : Sta (w1.setCell ⟨px, 1, none⟩ (.int .i64 cf)) ps O1 (qN [i, o, m]) p := (HS.out.keep hb).frame (own := fun k => k = px) ((Fr.refl (fun k => k = px) w1).setEq rfl _) (fun k hk e => HN.out (e ▸ hk))
  have C2 : Chg (fun k => k = px ∨ O1 k) (fun k => k = px ∨ O1 k) w (w1.setCell ⟨px, 1, none⟩ (.int .i64 cf)) := (Chg.of_below hb).trans ⟨(Fr.refl (fun k => k = px ∨ O1 k) w1).setEq (.inl rfl) _, fun k hk => .inl hk⟩
  have HX2 := Go.Lib.hid X2
  have HC2 := Go.Lib.hid C2
  have HSU := Go.Lib.hid (HSK.out _ _ X2 HN.out S2)
  clear hx1 hb X2 S2 C2
  go_wp2_with fail
  refine HSU.out.mono ?_
  rintro e w3 ⟨vo, O3, rfl, hs3, hc3, hko, hoo⟩
  have HX3 := Go.Lib.hid (hc3.blk HN.out HX2.out)
  have HN3 := Go.Lib.hid (hc3.not HX2.out.lt HN.out)
  have HF := Go.Lib.hid (HFG.out w3 O3 HX3.out HN3.out hs3)
  have HC3 := Go.Lib.hid hc3
  have HKO := Go.Lib.hid hko
  have HO3 := Go.Lib.hid hoo
  clear hs3 hc3 hko hoo c0 c1 f1
  go_wp2_with fail
  refine HF.out.mono ?_
  rintro e w4 ⟨rfl, O4, hs4, hc4⟩
  have HS4 := Go.Lib.hid hs4
  have HC4 := Go.Lib.hid hc4
  clear hs4 hc4
  go_wp2_with fail
  go_ret
  refine ⟨_, _, rfl, ?_, ⟨ps, O4, by rw [HT.out]; exact HC4.out.blk HN3.out HX3.out, by rw [HT.out]; exact HS4.out, HC4.out.not HX3.out.lt HN3.out, rfl⟩, HC2.out.trans (chg_up px (HC3.out.trans HC4.out))⟩
  rw [HT.out]; exact Row.frame HKO.out HC4.out.fr (fun b hb => (HO3.out b hb).2)
end
/-! Of none at all. -/
set_option maxHeartbeats 400000 in
theorem thas_nil (k : Int) (w : World) : Calls Try.prog 50 #[.pointer none, .int .u64 k] w fun e w' => e = .returned (.bool false) ∧ w = w' := by
  go_enter Try.func50, Try.ntmps50
  go_wp2_with fail
  go_ret
  exact ⟨rfl, rfl⟩
set_option maxHeartbeats 400000 in
theorem ttouch_nil (k : Int) (w : World) : Calls Try.prog 56 #[.pointer none, .int .u64 k] w fun e w' => e = .returned (.tuple #[]) ∧ w = w' := by
  go_enter Try.func56, Try.ntmps56
  go_wp2_with fail
  (try simp only [Exit.inBlock, Exit.then])
  refine bodyPost_ret (results_none rfl _ _ _) rfl ?_
  exact ⟨rfl, rfl⟩
set_option maxHeartbeats 400000 in
theorem tdrop_nil (k : Int) (w : World) : Calls Try.prog 57 #[.pointer none, .int .u64 k] w fun e w' => e = .returned (.tuple #[]) ∧ w = w' := by
  go_enter Try.func57, Try.ntmps57
  go_wp2_with fail
  go_end0
  exact ⟨rfl, rfl⟩
set_option maxHeartbeats 400000 in
theorem tadmit_nil (k : Int) (w : World) : Calls Try.prog 58 #[.pointer none, .int .u64 k] w fun e w' => e = .returned (.slice none 0 0) ∧ w = w' := by
  go_enter Try.func58, Try.ntmps58
  go_wp2_with fail
  go_ret
  exact ⟨rfl, rfl⟩
set_option maxHeartbeats 400000 in
theorem tresize_nil (n : Int) (w : World) : Calls Try.prog 59 #[.pointer none, .int .i64 n] w fun e w' => e = .returned (.slice none 0 0) ∧ w = w' := by
  go_enter Try.func59, Try.ntmps59
  go_wp2_with fail
  go_ret
  exact ⟨rfl, rfl⟩
set_option maxHeartbeats 400000 in
theorem trooms_nil (w : World) : Calls Try.prog 54 #[.pointer none] w fun e w' => e = .returned (.tuple #[.int .i64 0, .int .i64 0]) ∧ w = w' := by
  go_enter Try.func54, Try.ntmps54
  go_wp2_with fail
  go_ret2
  exact ⟨rfl, rfl⟩
set_option maxHeartbeats 400000 in
theorem tghosts_nil (w : World) : Calls Try.prog 51 #[.pointer none] w fun e w' => e = .returned (.int .i64 0) ∧ w = w' := by
  go_enter Try.func51, Try.ntmps51
  go_wp2_with fail
  go_ret
  exact ⟨rfl, rfl⟩
set_option maxHeartbeats 400000 in
theorem tstate_nil (w : World) : Calls Try.prog 47 #[.pointer none] w fun e w' => e = .returned (.agg #[.int .i64 0, .slice none 0 0, .slice none 0 0, .slice none 0 0]) ∧ Below w.heap.size w w' := by
  have HB := Go.Lib.hid ((Below.refl w.heap.size w).alloc (Nat.le_refl _) (.cells #[.int .i64 0, .slice none 0 0, .slice none 0 0, .slice none 0 0] 66))
  go_enter Try.func47, Try.ntmps47
  go_wp2_with fail
  refine bodyPost_ret (v := .agg #[.int .i64 0, .slice none 0 0, .slice none 0 0, .slice none 0 0]) (by simp [results, Try.results47, go_sem]) rfl ⟨rfl, ?_⟩
  repeat' (first | exact HB.out | refine below_set ?_ ?_ _ | omega)
set_option maxHeartbeats 800000 in
theorem tkeys_nil (w : World) : Calls Try.prog 49 #[.pointer none] w fun e w' => ∃ v, e = .returned v ∧ KL w' v [] ∧ Below w.heap.size w w' := by
  go_enter Try.func49, Try.ntmps49
  go_wp2_with fail
  refine (tstate_nil w).mono ?_
  rintro e w1 ⟨rfl, hb⟩
  have A1 := (Below.refl w1.heap.size w1).alloc (Nat.le_refl _) (.cells #[.int .i64 0, .slice none 0 0, .slice none 0 0, .slice none 0 0] 66)
  have A2 := A1.alloc (by simp) (.cells #[.slice none 0 0, .slice none 0 0] 26)
  have HCC := Go.Lib.hid (sconcat2_any (w1.heap.size + 1) (.slice none 0 0) (.slice none 0 0) [] [] _ (by simp) (Blk.new1 w1 (.cells #[.int .i64 0, .slice none 0 0, .slice none 0 0, .slice none 0 0] 66) [.slice none 0 0, .slice none 0 0] 26) (KL.nil _) (KL.nil _))
  have HB1 := Go.Lib.hid (hb.trans (A2.mono hb.size))
  clear hb A1 A2
  go_wp2_with fail
  refine HCC.out.mono ?_
  rintro e w2 ⟨v, rfl, hk, hb2⟩
  have HK := Go.Lib.hid hk
  have HB2 := Go.Lib.hid (HB1.out.trans (hb2.mono HB1.out.size))
  clear hk hb2
  go_wp2_with fail
  go_ret
  exact ⟨_, rfl, HK.out, HB2.out⟩
end Go.Proofs.Ytlakojncjldpbaa
