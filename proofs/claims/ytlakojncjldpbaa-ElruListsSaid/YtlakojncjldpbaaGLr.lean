/- The lists' LRU. -/
import Derived.Test.YtlakojncjldpbaaLq6
import Derived.Test.YtlakojncjldpbaaRef3
import Derived.Deep.RegionHeld3
namespace Go.Proofs.Ytlakojncjldpbaa
open Go.RowKit Hop
set_option linter.unusedVariables false
set_option linter.unusedSimpArgs false
set_option maxRecDepth 100000
theorem KL.fr {own : Nat → Prop} {w w' : World} {v : Value} {L : List Int} (h : KL w v L) (f : Fr own w w') (ho : ∀ b, v.ownBlock = some b → ¬ own b) : KL w' v L := Row.frame h f ho
abbrev luV (c : Int) (v : Value) : Value := .agg #[.int .i64 c, v]
theorem lrwith_any (c : Int) (a a2 : Option Addr) (n n2 cap cap2 : Nat) (w : World) :
    Calls Try.prog 154 #[.agg #[.int .i64 c, .slice a n cap], .slice a2 n2 cap2] w fun e w' => e = .returned (.agg #[.int .i64 c, .slice a2 n2 cap2]) ∧ Below w.heap.size w w' := by
  go_enter Try.func154, Try.ntmps154
  go_wp2_with fail
  refine bodyPost_ret (v := .agg #[.int .i64 c, .slice a2 n2 cap2]) (by simp [results, Try.results154, go_sem]) rfl ⟨rfl, ((Below.refl _ _).alloc (Nat.le_refl _) _).alloc (by simp) _⟩
theorem lrcap_any (c : Int) (w : World) (h0 : -9223372036854775808 ≤ c) (h1 : c ≤ 9223372036854775807) :
    Calls Try.prog 152 #[.int .i64 c] w fun e w' => e = .returned (.int .i64 (capF c)) ∧ w = w' := by
  have e : min (max c 1) 1048576 = capF c := by unfold capF; split <;> (try split) <;> omega
  have HE := Go.Lib.hid e
  clear e
  go_enter Try.func152, Try.ntmps152
  go_wp2_with fail
  go_ret
  exact ⟨by rw [← HE.out] <;> rfl, rfl⟩
theorem formed {P : Program} {f : Nat} {args : Array Value} {w : World} {R : List Int} (h : Calls P f args w fun e w' => ∃ v', e = .returned v' ∧ LNew w w' v' R) :
    Calls P f args w fun e w' => ∃ a1 n1 cap1, e = .returned (.slice a1 n1 cap1) ∧ KL w' (.slice a1 n1 cap1) R ∧ (∀ b, (Value.slice a1 n1 cap1).ownBlock = some b → w.heap.size ≤ b) ∧ Below w.heap.size w w' :=
  h.mono fun e w' ⟨v', h1, h2, h3, h4⟩ => by
    obtain ⟨a, cap, rfl⟩ := h2.form
    exact ⟨a, _, cap, h1, h2, h3, h4⟩
set_option maxHeartbeats 3200000 in
theorem lrtouch_any (c : Int) (v : Value) (L : List Int) (k : Int) (w : World) (hsm : L.length < 50000) (h : KL w v L) :
    Calls Try.prog 96 #[luV c v, .int .u64 k] w fun e w' => ∃ v', e = .returned (luV c v') ∧ LNew w w' v' (if k ∈ L then k :: wo L k else L) := by
  obtain ⟨a, cap, rfl⟩ := h.form
  have HH := Go.Lib.hid h
  clear h
  obtain ⟨W, hW⟩ : ∃ W, W = (w.alloc (.cells #[.int .i64 c, .slice a L.length cap] 39)).alloc (.cells #[.int .i64 0, .slice none 0 0] 39) := ⟨_, rfl⟩
  have b0 : Blk W w.heap.size [.int .i64 c, .slice a L.length cap] 39 := by rw [hW]; exact (Blk.new0 w [.int .i64 c, .slice a L.length cap] 39).alloc _
  have b1 : Blk W (w.heap.size + 1) [.int .i64 0, .slice none 0 0] 39 := by
    have q := Blk.new0 (w.alloc (.cells #[.int .i64 c, .slice a L.length cap] 39)) [.int .i64 0, .slice none 0 0] 39
    rw [World.size_alloc] at q
    rw [hW]; exact q
  have B0 : Below w.heap.size w W := by rw [hW]; exact ((Below.refl _ _).alloc (Nat.le_refl _) _).alloc (by simp) _
  have HK := Go.Lib.hid (HH.out.keep B0)
  have HB0 := Go.Lib.hid B0
  have Hb0 := Go.Lib.hid b0
  have Hb1 := Go.Lib.hid b1
  have HW := Go.Lib.hid hW
  have c0 := b0.cell 0
  have c1 := b0.cell 1
  simp only [List.getElem?_cons_zero, List.getElem?_cons_succ] at c0 c1
  have l0 := b0.lt
  clear hW b0 b1 B0
  have HI := Go.Lib.hid (sqhas_any _ L k W HK.out)
  by_cases hk : k ∈ L
  · rw [if_pos hk]
    rw [decide_eq_true hk] at HI
    have HC := Go.Lib.hid (formed (sqfront_any _ L k W.drew (by omega) (HK.out.keep (Below.refl _ _).drew)))
    clear hk
    go_enter Try.func96, Try.ntmps96
    go_wp2_with fail
    rw [← HW.out]
    refine HI.out.mono ?_
    rintro e w1 ⟨rfl, rfl⟩
    go_wp2_with fail
    have S0 := Go.Lib.hid ((⟨Hb0.out.drew.cell 0, Hb0.out.drew.cell 1⟩ : W.drew.cell? ⟨w.heap.size, 0, none⟩ = some (.int .i64 c) ∧ W.drew.cell? ⟨w.heap.size, 1, none⟩ = some (.slice a L.length cap)))
    have S1 := Go.Lib.hid (fun w' (hb : Below W.drew.heap.size W.drew w') => (⟨(Hb0.out.drew.keep hb).cell 0, (Hb0.out.drew.keep hb).cell 1⟩ : w'.cell? ⟨w.heap.size, 0, none⟩ = some (.int .i64 c) ∧ w'.cell? ⟨w.heap.size, 1, none⟩ = some (.slice a L.length cap)))
    have S3 := Go.Lib.hid (fun w' x0 x1 (hb : Below W.drew.heap.size W.drew w') => (have q := ((Hb0.out.drew.keep hb).set_ne (a := ⟨w.heap.size + 1, 0, none⟩) (by simp) x0).set_ne (a := ⟨w.heap.size + 1, 1, none⟩) (by simp) x1; (⟨q.cell 0, q.cell 1⟩ : ((w'.setCell ⟨w.heap.size + 1, 0, none⟩ x0).setCell ⟨w.heap.size + 1, 1, none⟩ x1).cell? ⟨w.heap.size, 0, none⟩ = some (.int .i64 c) ∧ ((w'.setCell ⟨w.heap.size + 1, 0, none⟩ x0).setCell ⟨w.heap.size + 1, 1, none⟩ x1).cell? ⟨w.heap.size, 1, none⟩ = some (.slice a L.length cap))))
    have HQ := Go.Lib.hid (fun w' (hb : Below W.drew.heap.size W.drew w') => Hb1.out.drew.keep hb)
    have HBD := Go.Lib.hid (HB0.out.trans ((Below.refl W.heap.size W).drew.mono HB0.out.size))
    have HLT := Go.Lib.hid Hb1.out.lt
    have HWI := Go.Lib.hid (fun a2 n2 cap2 w => lrwith_any c a a2 L.length n2 cap cap2 w)
    clear c0 c1 l0
    go_region_held3 (fun W' => W'.cell? ⟨w.heap.size, 0, none⟩ = some (.int .i64 c) ∧ W'.cell? ⟨w.heap.size, 1, none⟩ = some (.slice a L.length cap))
      (first | with_reducible exact S3.out _ _ _ hb2 | with_reducible exact S1.out _ hb2 | with_reducible exact S1.out _ hb1 | exact S0.out)
      (first | (go_at_call 154; have z1 := hb1.size; refine (HWI.out _ _ _ _).mono ?_; rintro e w5 ⟨rfl, hb⟩; have hb2 := hb1.trans (hb.mono z1); (have qb := HQ.out _ hb2; have r0 := qb.cell 0; have r1 := qb.cell 1; have y0 := qb.frozen 0; have y1 := qb.frozen 1); simp only [List.getElem?_cons_zero, List.getElem?_cons_succ] at r0 r1; have rl := qb.lt) | (go_at_call 156; refine HC.out.mono ?_; rintro e w4 ⟨a1, n1, cap1, rfl, hk1, ho1, hb1⟩))
    have KN := hk1.keep (hb.mono (Nat.le_refl _))
    have B5 := HBD.out.trans (hb2.mono HBD.out.size)
    obtain ⟨W6, hW6⟩ : ∃ W6, W6 = (w5.setCell ⟨w.heap.size + 1, 0, none⟩ (.int .i64 c)).setCell ⟨w.heap.size + 1, 1, none⟩ (.slice a1 n1 cap1) := ⟨_, rfl⟩
    have b6 : Blk W6 (w.heap.size + 1) [.int .i64 c, .slice a1 n1 cap1] 39 := by rw [hW6]; exact (qb.set 0 _).set 1 _
    have F6 : Fr (fun k => k = w.heap.size + 1) w5 W6 := by rw [hW6]; exact ((Fr.refl (fun k => k = w.heap.size + 1) w5).setEq rfl _).setEq rfl _
    have HN := Go.Lib.hid (⟨KN.fr F6 (fun g hg e => by have q1 := ho1 g hg; have q2 := HLT.out; have q3 : W.drew.heap.size = W.heap.size := rfl; omega), fun g hg => by have := ho1 g hg; have := HBD.out.size; omega, below_fr B5 F6 (Nat.le_refl _) (fun i hi => by omega)⟩ : LNew w W6 (.slice a1 n1 cap1) (k :: wo L k))
    rw [← hW6]
    clear hW6 KN B5 F6 hb1 hb2 hb ho1 hk1 qb r0 r1 y0 y1 rl
    have d0 := b6.cell 0
    have d1 := b6.cell 1
    simp only [List.getElem?_cons_zero, List.getElem?_cons_succ] at d0 d1
    have dl := b6.lt
    clear b6
    go_wp2_with fail
    refine bodyPost_ret (v := .agg #[.int .i64 c, .slice a1 n1 cap1]) (by simp [results, Try.results96, go_sem, d0, d1]) rfl ⟨.slice a1 n1 cap1, rfl, HN.out⟩
  · rw [if_neg hk]
    rw [decide_eq_false hk] at HI
    have HC := Go.Lib.hid (formed (slclone_any _ L W.drew (by omega) (HK.out.keep (Below.refl _ _).drew)))
    clear hk
    go_enter Try.func96, Try.ntmps96
    go_wp2_with fail
    rw [← HW.out]
    refine HI.out.mono ?_
    rintro e w1 ⟨rfl, rfl⟩
    go_wp2_with fail
    have S0 := Go.Lib.hid ((⟨Hb0.out.drew.cell 0, Hb0.out.drew.cell 1⟩ : W.drew.cell? ⟨w.heap.size, 0, none⟩ = some (.int .i64 c) ∧ W.drew.cell? ⟨w.heap.size, 1, none⟩ = some (.slice a L.length cap)))
    have S1 := Go.Lib.hid (fun w' (hb : Below W.drew.heap.size W.drew w') => (⟨(Hb0.out.drew.keep hb).cell 0, (Hb0.out.drew.keep hb).cell 1⟩ : w'.cell? ⟨w.heap.size, 0, none⟩ = some (.int .i64 c) ∧ w'.cell? ⟨w.heap.size, 1, none⟩ = some (.slice a L.length cap)))
    have S3 := Go.Lib.hid (fun w' x0 x1 (hb : Below W.drew.heap.size W.drew w') => (have q := ((Hb0.out.drew.keep hb).set_ne (a := ⟨w.heap.size + 1, 0, none⟩) (by simp) x0).set_ne (a := ⟨w.heap.size + 1, 1, none⟩) (by simp) x1; (⟨q.cell 0, q.cell 1⟩ : ((w'.setCell ⟨w.heap.size + 1, 0, none⟩ x0).setCell ⟨w.heap.size + 1, 1, none⟩ x1).cell? ⟨w.heap.size, 0, none⟩ = some (.int .i64 c) ∧ ((w'.setCell ⟨w.heap.size + 1, 0, none⟩ x0).setCell ⟨w.heap.size + 1, 1, none⟩ x1).cell? ⟨w.heap.size, 1, none⟩ = some (.slice a L.length cap))))
    have HQ := Go.Lib.hid (fun w' (hb : Below W.drew.heap.size W.drew w') => Hb1.out.drew.keep hb)
    have HBD := Go.Lib.hid (HB0.out.trans ((Below.refl W.heap.size W).drew.mono HB0.out.size))
    have HLT := Go.Lib.hid Hb1.out.lt
    have HWI := Go.Lib.hid (fun a2 n2 cap2 w => lrwith_any c a a2 L.length n2 cap cap2 w)
    clear c0 c1 l0
    go_region_held3 (fun W' => W'.cell? ⟨w.heap.size, 0, none⟩ = some (.int .i64 c) ∧ W'.cell? ⟨w.heap.size, 1, none⟩ = some (.slice a L.length cap))
      (first | with_reducible exact S3.out _ _ _ hb2 | with_reducible exact S1.out _ hb2 | with_reducible exact S1.out _ hb1 | exact S0.out)
      (first | (go_at_call 154; have z1 := hb1.size; refine (HWI.out _ _ _ _).mono ?_; rintro e w5 ⟨rfl, hb⟩; have hb2 := hb1.trans (hb.mono z1); (have qb := HQ.out _ hb2; have r0 := qb.cell 0; have r1 := qb.cell 1; have y0 := qb.frozen 0; have y1 := qb.frozen 1); simp only [List.getElem?_cons_zero, List.getElem?_cons_succ] at r0 r1; have rl := qb.lt) | (go_at_call 155; refine HC.out.mono ?_; rintro e w4 ⟨a1, n1, cap1, rfl, hk1, ho1, hb1⟩))
    have KN := hk1.keep (hb.mono (Nat.le_refl _))
    have B5 := HBD.out.trans (hb2.mono HBD.out.size)
    obtain ⟨W6, hW6⟩ : ∃ W6, W6 = (w5.setCell ⟨w.heap.size + 1, 0, none⟩ (.int .i64 c)).setCell ⟨w.heap.size + 1, 1, none⟩ (.slice a1 n1 cap1) := ⟨_, rfl⟩
    have b6 : Blk W6 (w.heap.size + 1) [.int .i64 c, .slice a1 n1 cap1] 39 := by rw [hW6]; exact (qb.set 0 _).set 1 _
    have F6 : Fr (fun k => k = w.heap.size + 1) w5 W6 := by rw [hW6]; exact ((Fr.refl (fun k => k = w.heap.size + 1) w5).setEq rfl _).setEq rfl _
    have HN := Go.Lib.hid (⟨KN.fr F6 (fun g hg e => by have q1 := ho1 g hg; have q2 := HLT.out; have q3 : W.drew.heap.size = W.heap.size := rfl; omega), fun g hg => by have := ho1 g hg; have := HBD.out.size; omega, below_fr B5 F6 (Nat.le_refl _) (fun i hi => by omega)⟩ : LNew w W6 (.slice a1 n1 cap1) L)
    rw [← hW6]
    clear hW6 KN B5 F6 hb1 hb2 hb ho1 hk1 qb r0 r1 y0 y1 rl
    have d0 := b6.cell 0
    have d1 := b6.cell 1
    simp only [List.getElem?_cons_zero, List.getElem?_cons_succ] at d0 d1
    have dl := b6.lt
    clear b6
    go_wp2_with fail
    refine bodyPost_ret (v := .agg #[.int .i64 c, .slice a1 n1 cap1]) (by simp [results, Try.results96, go_sem, d0, d1]) rfl ⟨.slice a1 n1 cap1, rfl, HN.out⟩
set_option maxHeartbeats 3200000 in
theorem lrdrop_any (c : Int) (v : Value) (L : List Int) (k : Int) (w : World) (hsm : L.length < 50000) (h : KL w v L) :
    Calls Try.prog 98 #[luV c v, .int .u64 k] w fun e w' => ∃ v', e = .returned (luV c v') ∧ LNew w w' v' (wo L k) := by
  obtain ⟨a, cap, rfl⟩ := h.form
  have HH := Go.Lib.hid h
  clear h
  obtain ⟨W, hW⟩ : ∃ W, W = (w.alloc (.cells #[.int .i64 c, .slice a L.length cap] 39)).alloc (.cells #[.int .i64 0, .slice none 0 0] 39) := ⟨_, rfl⟩
  have b0 : Blk W w.heap.size [.int .i64 c, .slice a L.length cap] 39 := by rw [hW]; exact (Blk.new0 w [.int .i64 c, .slice a L.length cap] 39).alloc _
  have b1 : Blk W (w.heap.size + 1) [.int .i64 0, .slice none 0 0] 39 := by
    have q := Blk.new0 (w.alloc (.cells #[.int .i64 c, .slice a L.length cap] 39)) [.int .i64 0, .slice none 0 0] 39
    rw [World.size_alloc] at q
    rw [hW]; exact q
  have B0 : Below w.heap.size w W := by rw [hW]; exact ((Below.refl _ _).alloc (Nat.le_refl _) _).alloc (by simp) _
  have HK := Go.Lib.hid (HH.out.keep B0)
  have HB0 := Go.Lib.hid B0
  have Hb0 := Go.Lib.hid b0
  have Hb1 := Go.Lib.hid b1
  have HW := Go.Lib.hid hW
  have c0 := b0.cell 0
  have c1 := b0.cell 1
  simp only [List.getElem?_cons_zero, List.getElem?_cons_succ] at c0 c1
  have l0 := b0.lt
  clear hW b0 b1 B0
  have HC := Go.Lib.hid (formed (sqwo_any _ L k W.drew (by omega) (HK.out.keep (Below.refl _ _).drew)))
  go_enter Try.func98, Try.ntmps98
  go_wp2_with fail
  rw [← HW.out]
  have S0 := Go.Lib.hid ((⟨Hb0.out.drew.cell 0, Hb0.out.drew.cell 1⟩ : W.drew.cell? ⟨w.heap.size, 0, none⟩ = some (.int .i64 c) ∧ W.drew.cell? ⟨w.heap.size, 1, none⟩ = some (.slice a L.length cap)))
  have S1 := Go.Lib.hid (fun w' (hb : Below W.drew.heap.size W.drew w') => (⟨(Hb0.out.drew.keep hb).cell 0, (Hb0.out.drew.keep hb).cell 1⟩ : w'.cell? ⟨w.heap.size, 0, none⟩ = some (.int .i64 c) ∧ w'.cell? ⟨w.heap.size, 1, none⟩ = some (.slice a L.length cap)))
  have S3 := Go.Lib.hid (fun w' x0 x1 (hb : Below W.drew.heap.size W.drew w') => (have q := ((Hb0.out.drew.keep hb).set_ne (a := ⟨w.heap.size + 1, 0, none⟩) (by simp) x0).set_ne (a := ⟨w.heap.size + 1, 1, none⟩) (by simp) x1; (⟨q.cell 0, q.cell 1⟩ : ((w'.setCell ⟨w.heap.size + 1, 0, none⟩ x0).setCell ⟨w.heap.size + 1, 1, none⟩ x1).cell? ⟨w.heap.size, 0, none⟩ = some (.int .i64 c) ∧ ((w'.setCell ⟨w.heap.size + 1, 0, none⟩ x0).setCell ⟨w.heap.size + 1, 1, none⟩ x1).cell? ⟨w.heap.size, 1, none⟩ = some (.slice a L.length cap))))
  have HQ := Go.Lib.hid (fun w' (hb : Below W.drew.heap.size W.drew w') => Hb1.out.drew.keep hb)
  have HBD := Go.Lib.hid (HB0.out.trans ((Below.refl W.heap.size W).drew.mono HB0.out.size))
  have HLT := Go.Lib.hid Hb1.out.lt
  have HWI := Go.Lib.hid (fun a2 n2 cap2 w => lrwith_any c a a2 L.length n2 cap cap2 w)
  clear c0 c1 l0
  go_region_held3 (fun W' => W'.cell? ⟨w.heap.size, 0, none⟩ = some (.int .i64 c) ∧ W'.cell? ⟨w.heap.size, 1, none⟩ = some (.slice a L.length cap))
    (first | with_reducible exact S3.out _ _ _ hb2 | with_reducible exact S1.out _ hb2 | with_reducible exact S1.out _ hb1 | exact S0.out)
    (first | (go_at_call 154; have z1 := hb1.size; refine (HWI.out _ _ _ _).mono ?_; rintro e w5 ⟨rfl, hb⟩; have hb2 := hb1.trans (hb.mono z1); (have qb := HQ.out _ hb2; have r0 := qb.cell 0; have r1 := qb.cell 1; have y0 := qb.frozen 0; have y1 := qb.frozen 1); simp only [List.getElem?_cons_zero, List.getElem?_cons_succ] at r0 r1; have rl := qb.lt) | (go_at_call 158; refine HC.out.mono ?_; rintro e w4 ⟨a1, n1, cap1, rfl, hk1, ho1, hb1⟩))
  have KN := hk1.keep (hb.mono (Nat.le_refl _))
  have B5 := HBD.out.trans (hb2.mono HBD.out.size)
  obtain ⟨W6, hW6⟩ : ∃ W6, W6 = (w5.setCell ⟨w.heap.size + 1, 0, none⟩ (.int .i64 c)).setCell ⟨w.heap.size + 1, 1, none⟩ (.slice a1 n1 cap1) := ⟨_, rfl⟩
  have b6 : Blk W6 (w.heap.size + 1) [.int .i64 c, .slice a1 n1 cap1] 39 := by rw [hW6]; exact (qb.set 0 _).set 1 _
  have F6 : Fr (fun k => k = w.heap.size + 1) w5 W6 := by rw [hW6]; exact ((Fr.refl (fun k => k = w.heap.size + 1) w5).setEq rfl _).setEq rfl _
  have HN := Go.Lib.hid (⟨KN.fr F6 (fun g hg e => by have q1 := ho1 g hg; have q2 := HLT.out; have q3 : W.drew.heap.size = W.heap.size := rfl; omega), fun g hg => by have := ho1 g hg; have := HBD.out.size; omega, below_fr B5 F6 (Nat.le_refl _) (fun i hi => by omega)⟩ : LNew w W6 (.slice a1 n1 cap1) (wo L k))
  rw [← hW6]
  clear hW6 KN B5 F6 hb1 hb2 hb ho1 hk1 qb r0 r1 y0 y1 rl
  have d0 := b6.cell 0
  have d1 := b6.cell 1
  simp only [List.getElem?_cons_zero, List.getElem?_cons_succ] at d0 d1
  have dl := b6.lt
  clear b6
  go_wp2_with fail
  refine bodyPost_ret (v := .agg #[.int .i64 c, .slice a1 n1 cap1]) (by simp [results, Try.results98, go_sem, d0, d1]) rfl ⟨.slice a1 n1 cap1, rfl, HN.out⟩
end Go.Proofs.Ytlakojncjldpbaa

namespace Go.Proofs.Ytlakojncjldpbaa
open Go.RowKit Hop
set_option linter.unusedVariables false
set_option linter.unusedSimpArgs false
set_option maxRecDepth 100000
set_option maxHeartbeats 3200000 in
theorem lradmit_any (c : Int) (v : Value) (L : List Int) (k : Int) (w : World) (hc0 : 1 ≤ c) (hc1 : c ≤ 1048576) (hsm : L.length < 50000) (h : KL w v L) :
    Calls Try.prog 97 #[luV c v, .int .u64 k] w fun e w' => ∃ v' vo, e = .returned (.tuple #[luV c v', vo]) ∧ LNew w w' v' (if k ∈ L then L else k :: wo (L.take (c - 1).toNat) k) ∧ KL w' vo (if k ∈ L then [] else fallF L (c - 1)) := by
  obtain ⟨a, cap, rfl⟩ := h.form
  have HH := Go.Lib.hid h
  clear h
  obtain ⟨W, hW⟩ : ∃ W, W = (w.alloc (.cells #[.int .i64 c, .slice a L.length cap] 39)).alloc (.cells #[.int .i64 0, .slice none 0 0] 39) := ⟨_, rfl⟩
  have b0 : Blk W w.heap.size [.int .i64 c, .slice a L.length cap] 39 := by rw [hW]; exact (Blk.new0 w [.int .i64 c, .slice a L.length cap] 39).alloc _
  have b1 : Blk W (w.heap.size + 1) [.int .i64 0, .slice none 0 0] 39 := by
    have q := Blk.new0 (w.alloc (.cells #[.int .i64 c, .slice a L.length cap] 39)) [.int .i64 0, .slice none 0 0] 39
    rw [World.size_alloc] at q
    rw [hW]; exact q
  have B0 : Below w.heap.size w W := by rw [hW]; exact ((Below.refl _ _).alloc (Nat.le_refl _) _).alloc (by simp) _
  have HK := Go.Lib.hid (HH.out.keep B0)
  have HB0 := Go.Lib.hid B0
  have Hb0 := Go.Lib.hid b0
  have Hb1 := Go.Lib.hid b1
  have HW := Go.Lib.hid hW
  have c0 := b0.cell 0
  have c1 := b0.cell 1
  simp only [List.getElem?_cons_zero, List.getElem?_cons_succ] at c0 c1
  have l0 := b0.lt
  clear hW b0 b1 B0
  have HI := Go.Lib.hid (sqhas_any _ L k W HK.out)
  by_cases hk : k ∈ L
  · rw [if_pos hk, if_pos hk]
    rw [decide_eq_true hk] at HI
    have HC := Go.Lib.hid (formed (slclone_any _ L W.drew (by omega) (HK.out.keep (Below.refl _ _).drew)))
    clear hk
    go_enter Try.func97, Try.ntmps97
    go_wp2_with fail
    rw [← HW.out]
    refine HI.out.mono ?_
    rintro e w1 ⟨rfl, rfl⟩
    go_wp2_with fail
    have S0 := Go.Lib.hid ((⟨Hb0.out.drew.cell 0, Hb0.out.drew.cell 1⟩ : W.drew.cell? ⟨w.heap.size, 0, none⟩ = some (.int .i64 c) ∧ W.drew.cell? ⟨w.heap.size, 1, none⟩ = some (.slice a L.length cap)))
    have S1 := Go.Lib.hid (fun w' (hb : Below W.drew.heap.size W.drew w') => (⟨(Hb0.out.drew.keep hb).cell 0, (Hb0.out.drew.keep hb).cell 1⟩ : w'.cell? ⟨w.heap.size, 0, none⟩ = some (.int .i64 c) ∧ w'.cell? ⟨w.heap.size, 1, none⟩ = some (.slice a L.length cap)))
    have S3 := Go.Lib.hid (fun w' x0 x1 (hb : Below W.drew.heap.size W.drew w') => (have q := ((Hb0.out.drew.keep hb).set_ne (a := ⟨w.heap.size + 1, 0, none⟩) (by simp) x0).set_ne (a := ⟨w.heap.size + 1, 1, none⟩) (by simp) x1; (⟨q.cell 0, q.cell 1⟩ : ((w'.setCell ⟨w.heap.size + 1, 0, none⟩ x0).setCell ⟨w.heap.size + 1, 1, none⟩ x1).cell? ⟨w.heap.size, 0, none⟩ = some (.int .i64 c) ∧ ((w'.setCell ⟨w.heap.size + 1, 0, none⟩ x0).setCell ⟨w.heap.size + 1, 1, none⟩ x1).cell? ⟨w.heap.size, 1, none⟩ = some (.slice a L.length cap))))
    have HQ := Go.Lib.hid (fun w' (hb : Below W.drew.heap.size W.drew w') => Hb1.out.drew.keep hb)
    have HBD := Go.Lib.hid (HB0.out.trans ((Below.refl W.heap.size W).drew.mono HB0.out.size))
    have HLT := Go.Lib.hid Hb1.out.lt
    have HWI := Go.Lib.hid (fun a2 n2 cap2 w => lrwith_any c a a2 L.length n2 cap cap2 w)
    clear c0 c1 l0
    go_region_held3 (fun W' => W'.cell? ⟨w.heap.size, 0, none⟩ = some (.int .i64 c) ∧ W'.cell? ⟨w.heap.size, 1, none⟩ = some (.slice a L.length cap))
      (first | with_reducible exact S3.out _ _ _ hb2 | with_reducible exact S1.out _ hb2 | with_reducible exact S1.out _ hb1 | exact S0.out)
      (first | (go_at_call 154; have z1 := hb1.size; refine (HWI.out _ _ _ _).mono ?_; rintro e w5 ⟨rfl, hb⟩; have hb2 := hb1.trans (hb.mono z1); (have qb := HQ.out _ hb2; have r0 := qb.cell 0; have r1 := qb.cell 1; have y0 := qb.frozen 0; have y1 := qb.frozen 1); simp only [List.getElem?_cons_zero, List.getElem?_cons_succ] at r0 r1; have rl := qb.lt) | (go_at_call 155; refine HC.out.mono ?_; rintro e w4 ⟨a1, n1, cap1, rfl, hk1, ho1, hb1⟩))
    have KN := hk1.keep (hb.mono (Nat.le_refl _))
    have B5 := HBD.out.trans (hb2.mono HBD.out.size)
    obtain ⟨W6, hW6⟩ : ∃ W6, W6 = (w5.setCell ⟨w.heap.size + 1, 0, none⟩ (.int .i64 c)).setCell ⟨w.heap.size + 1, 1, none⟩ (.slice a1 n1 cap1) := ⟨_, rfl⟩
    have b6 : Blk W6 (w.heap.size + 1) [.int .i64 c, .slice a1 n1 cap1] 39 := by rw [hW6]; exact (qb.set 0 _).set 1 _
    have F6 : Fr (fun k => k = w.heap.size + 1) w5 W6 := by rw [hW6]; exact ((Fr.refl (fun k => k = w.heap.size + 1) w5).setEq rfl _).setEq rfl _
    have HN := Go.Lib.hid (⟨KN.fr F6 (fun g hg e => by have q1 := ho1 g hg; have q2 := HLT.out; have q3 : W.drew.heap.size = W.heap.size := rfl; omega), fun g hg => by have := ho1 g hg; have := HBD.out.size; omega, below_fr B5 F6 (Nat.le_refl _) (fun i hi => by omega)⟩ : LNew w W6 (.slice a1 n1 cap1) L)
    rw [← hW6]
    clear hW6 KN B5 F6 hb1 hb2 hb ho1 hk1 qb r0 r1 y0 y1 rl
    have d0 := b6.cell 0
    have d1 := b6.cell 1
    simp only [List.getElem?_cons_zero, List.getElem?_cons_succ] at d0 d1
    have dl := b6.lt
    clear b6
    go_wp2_with fail
    refine bodyPost_ret (v := .tuple #[.agg #[.int .i64 c, .slice a1 n1 cap1], .slice none 0 0]) (by simp [results, Try.results97, go_sem, d0, d1]) rfl ⟨.slice a1 n1 cap1, .slice none 0 0, rfl, HN.out, KL.nil _⟩
  · rw [if_neg hk, if_neg hk]
    rw [decide_eq_false hk] at HI
    have HFA := Go.Lib.hid (sqfall_any _ L (c - 1) W hsm (by omega) (by omega) HK.out)
    have HWL := Go.Lib.hid Hb1.out.lt
    clear hk
    go_enter Try.func97, Try.ntmps97
    go_wp2_with fail
    rw [← HW.out]
    refine HI.out.mono ?_
    rintro e w1 ⟨rfl, rfl⟩
    go_wp2_with fail
    refine HFA.out.mono ?_
    rintro e w3 ⟨vo, vr, rfl, hko, hoo, hkr, hor, hb⟩
    obtain ⟨ar, capr, rfl⟩ := hkr.form
    obtain ⟨ao, capo, rfl⟩ := hko.form
    have HC := Go.Lib.hid (formed (sqfront_any _ _ k w3.drew (by simp; omega) (hkr.keep (Below.refl _ _).drew)))
    have HVO := Go.Lib.hid hko
    have HVB := Go.Lib.hid hoo
    have Hc0 := Go.Lib.hid (Hb0.out.keep hb)
    have Hc1 := Go.Lib.hid (Hb1.out.keep hb)
    have HC0 := Go.Lib.hid (HB0.out.trans (hb.mono HB0.out.size))
    generalize (fallF L (c - 1)).length = no at *
    generalize (L.take (c - 1).toNat).length = nr at *
    clear hko hoo hkr hor hb
    go_wp2_with fail
    have S0 := Go.Lib.hid ((⟨Hc0.out.drew.cell 0, Hc0.out.drew.cell 1⟩ : w3.drew.cell? ⟨w.heap.size, 0, none⟩ = some (.int .i64 c) ∧ w3.drew.cell? ⟨w.heap.size, 1, none⟩ = some (.slice a L.length cap)))
    have S1 := Go.Lib.hid (fun w' (hb : Below w3.drew.heap.size w3.drew w') => (⟨(Hc0.out.drew.keep hb).cell 0, (Hc0.out.drew.keep hb).cell 1⟩ : w'.cell? ⟨w.heap.size, 0, none⟩ = some (.int .i64 c) ∧ w'.cell? ⟨w.heap.size, 1, none⟩ = some (.slice a L.length cap)))
    have S3 := Go.Lib.hid (fun w' x0 x1 (hb : Below w3.drew.heap.size w3.drew w') => (have q := ((Hc0.out.drew.keep hb).set_ne (a := ⟨w.heap.size + 1, 0, none⟩) (by simp) x0).set_ne (a := ⟨w.heap.size + 1, 1, none⟩) (by simp) x1; (⟨q.cell 0, q.cell 1⟩ : ((w'.setCell ⟨w.heap.size + 1, 0, none⟩ x0).setCell ⟨w.heap.size + 1, 1, none⟩ x1).cell? ⟨w.heap.size, 0, none⟩ = some (.int .i64 c) ∧ ((w'.setCell ⟨w.heap.size + 1, 0, none⟩ x0).setCell ⟨w.heap.size + 1, 1, none⟩ x1).cell? ⟨w.heap.size, 1, none⟩ = some (.slice a L.length cap))))
    have HQ := Go.Lib.hid (fun w' (hb : Below w3.drew.heap.size w3.drew w') => Hc1.out.drew.keep hb)
    have HBD := Go.Lib.hid (HC0.out.trans ((Below.refl w3.heap.size w3).drew.mono HC0.out.size))
    have HLT := Go.Lib.hid Hc1.out.lt
    have HWI := Go.Lib.hid (fun a2 n2 cap2 w => lrwith_any c a a2 L.length n2 cap cap2 w)
    clear c0 c1 l0
    go_region_held3 (fun W' => W'.cell? ⟨w.heap.size, 0, none⟩ = some (.int .i64 c) ∧ W'.cell? ⟨w.heap.size, 1, none⟩ = some (.slice a L.length cap))
      (first | with_reducible exact S3.out _ _ _ hb2 | with_reducible exact S1.out _ hb2 | with_reducible exact S1.out _ hb1 | exact S0.out)
      (first | (go_at_call 154; have z1 := hb1.size; refine (HWI.out _ _ _ _).mono ?_; rintro e w5 ⟨rfl, hb⟩; have hb2 := hb1.trans (hb.mono z1); (have qb := HQ.out _ hb2; have r0 := qb.cell 0; have r1 := qb.cell 1; have y0 := qb.frozen 0; have y1 := qb.frozen 1); simp only [List.getElem?_cons_zero, List.getElem?_cons_succ] at r0 r1; have rl := qb.lt) | (go_at_call 156; refine HC.out.mono ?_; rintro e w4 ⟨a1, n1, cap1, rfl, hk1, ho1, hb1⟩))
    have KN := hk1.keep (hb.mono (Nat.le_refl _))
    have B5 := HBD.out.trans (hb2.mono HBD.out.size)
    obtain ⟨W6, hW6⟩ : ∃ W6, W6 = (w5.setCell ⟨w.heap.size + 1, 0, none⟩ (.int .i64 c)).setCell ⟨w.heap.size + 1, 1, none⟩ (.slice a1 n1 cap1) := ⟨_, rfl⟩
    have b6 : Blk W6 (w.heap.size + 1) [.int .i64 c, .slice a1 n1 cap1] 39 := by rw [hW6]; exact (qb.set 0 _).set 1 _
    have F6 : Fr (fun k => k = w.heap.size + 1) w5 W6 := by rw [hW6]; exact ((Fr.refl (fun k => k = w.heap.size + 1) w5).setEq rfl _).setEq rfl _
    have HN := Go.Lib.hid (⟨KN.fr F6 (fun g hg e => by have q1 := ho1 g hg; have q2 := HLT.out; have q3 : w3.drew.heap.size = w3.heap.size := rfl; omega), fun g hg => by have := ho1 g hg; have := HBD.out.size; omega, below_fr B5 F6 (Nat.le_refl _) (fun i hi => by omega)⟩ : LNew w W6 (.slice a1 n1 cap1) (k :: wo (L.take (c - 1).toNat) k))
    have HVN := Go.Lib.hid (((HVO.out.keep (Below.refl _ _).drew).keep hb2).fr F6 (fun g hg e => by have q1 := HVB.out g hg; have q2 := HWL.out; omega))
    rw [← hW6]
    clear hW6 KN B5 F6 hb1 hb2 hb ho1 hk1 qb r0 r1 y0 y1 rl
    have d0 := b6.cell 0
    have d1 := b6.cell 1
    simp only [List.getElem?_cons_zero, List.getElem?_cons_succ] at d0 d1
    have dl := b6.lt
    clear b6
    go_wp2_with fail
    refine bodyPost_ret (v := .tuple #[.agg #[.int .i64 c, .slice a1 n1 cap1], .slice ao no capo]) (by simp [results, Try.results97, go_sem, d0, d1]) rfl ⟨.slice a1 n1 cap1, .slice ao no capo, rfl, HN.out, HVN.out⟩
theorem lrhas_any (c : Int) (v : Value) (L : List Int) (k : Int) (w : World) (h : KL w v L) :
    Calls Try.prog 95 #[luV c v, .int .u64 k] w fun e w' => e = .returned (.bool (decide (k ∈ L))) ∧ Below w.heap.size w w' := by
  obtain ⟨a, cap, rfl⟩ := h.form
  have B0 := (Below.refl w.heap.size w).alloc (Nat.le_refl _) (.cells #[.int .i64 c, .slice a L.length cap] 39)
  have HI := Go.Lib.hid (sqhas_any _ L k _ (h.keep B0))
  have HB0 := Go.Lib.hid B0
  clear h B0
  generalize decide (k ∈ L) = b at *
  go_enter Try.func95, Try.ntmps95
  go_wp2_with fail
  refine HI.out.mono ?_
  rintro e w1 ⟨rfl, rfl⟩
  go_wp2_with fail
  go_ret
  exact ⟨rfl, HB0.out⟩
theorem lrkeys_any (c : Int) (v : Value) (L : List Int) (w : World) (hsm : L.length < 50000) (h : KL w v L) :
    Calls Try.prog 101 #[luV c v] w fun e w' => ∃ v', e = .returned v' ∧ LNew w w' v' L := by
  obtain ⟨a, cap, rfl⟩ := h.form
  have B0 := (Below.refl w.heap.size w).alloc (Nat.le_refl _) (.cells #[.int .i64 c, .slice a L.length cap] 39)
  have HI := Go.Lib.hid (slclone_any _ L _ (by omega) (h.keep B0))
  have HB0 := Go.Lib.hid B0
  clear h B0
  go_enter Try.func101, Try.ntmps101
  go_wp2_with fail
  refine HI.out.mono ?_
  rintro e w1 ⟨v1, rfl, hk1, ho1, hb1⟩
  have HN : Hid (LNew w w1 v1 L) := Go.Lib.hid ⟨hk1, fun g hg => by have := ho1 g hg; simp at this; omega, HB0.out.trans (hb1.mono HB0.out.size)⟩
  clear hk1 ho1 hb1
  go_wp2_with fail
  go_ret
  exact ⟨_, rfl, HN.out⟩
theorem lrghosts_any (c : Int) (a : Option Addr) (n cap : Nat) (w : World) :
    Calls Try.prog 102 #[luV c (.slice a n cap)] w fun e w' => e = .returned (.int .i64 0) ∧ Below w.heap.size w w' := by
  go_enter Try.func102, Try.ntmps102
  go_wp2_with fail
  go_ret
  exact ⟨rfl, (Below.refl _ _).alloc (Nat.le_refl _) _⟩
theorem lrnew_any (c : Int) (w : World) (h0 : -9223372036854775808 ≤ c) (h1 : c ≤ 9223372036854775807) :
    Calls Try.prog 93 #[.int .i64 c] w fun e w' => e = .returned (luV (capF c) (.slice none 0 0)) ∧ Below w.heap.size w w' := by
  have HC := Go.Lib.hid (fun w => lrcap_any c w h0 h1)
  generalize capF c = cc at *
  go_enter Try.func93, Try.ntmps93
  go_wp2_with fail
  refine (HC.out _).mono ?_
  rintro e w1 ⟨rfl, rfl⟩
  go_wp2_with fail
  refine bodyPost_ret (v := .agg #[.int .i64 cc, .slice none 0 0]) (by simp [results, Try.results93, go_sem]) rfl ⟨rfl, (Below.refl _ _).alloc (Nat.le_refl _) _⟩
end Go.Proofs.Ytlakojncjldpbaa

namespace Go.Proofs.Ytlakojncjldpbaa
open Go.RowKit Hop
set_option linter.unusedVariables false
set_option linter.unusedSimpArgs false
set_option maxRecDepth 100000
set_option maxHeartbeats 3200000 in
theorem lrres1_any (c n : Int) (b0 b2 n₀ : Nat) (a : Option Addr) (cap : Nat) (vx : Value) (L : List Int) (w : World) (hsm : L.length < 50000) (hn0 : 0 ≤ n) (hn1 : n ≤ 9223372036854775807)
    (h0 : Blk w b0 [.int .i64 c, .slice a L.length cap] 39) (h2 : Blk w b2 [vx] 26) (h : KL w (.slice a L.length cap) L) (hb0 : n₀ ≤ b0) (hb2 : n₀ ≤ b2) (hne : b0 ≠ b2) (hnw : n₀ ≤ w.heap.size) :
    Calls Try.prog 159 #[.int .i64 n, .pointer (some ⟨b0, 0, none⟩), .pointer (some ⟨b2, 0, none⟩)] w fun e w' => e = .returned (.tuple #[]) ∧ ∃ ao no co ar nr cr, Blk w' b0 [.int .i64 c, .slice ar nr cr] 39 ∧ Blk w' b2 [.slice ao no co] 26 ∧ KL w' (.slice ar nr cr) (L.take n.toNat) ∧ KL w' (.slice ao no co) (fallF L n) ∧
      (∀ b, (Value.slice ar nr cr).ownBlock = some b → w.heap.size ≤ b) ∧ (∀ b, (Value.slice ao no co).ownBlock = some b → w.heap.size ≤ b) ∧ Below n₀ w w' ∧ (∀ b cs T, Blk w b cs T → b ≠ b0 → b ≠ b2 → Blk w' b cs T) := by
  have HF := Go.Lib.hid (sqfall_any _ L n w hsm hn0 hn1 h)
  have H0 := Go.Lib.hid h0
  have H2 := Go.Lib.hid h2
  have c1 := h0.cell 1
  simp only [List.getElem?_cons_zero, List.getElem?_cons_succ] at c1
  have l0 := h0.lt
  have L0 := Go.Lib.hid h0.lt
  have L2 := Go.Lib.hid h2.lt
  clear h0 h2 h
  go_enter Try.func159, Try.ntmps159
  go_wp2_with fail
  refine HF.out.mono ?_
  rintro e w1 ⟨vo, vr, rfl, hko, hoo, hkr, hor, hb⟩
  obtain ⟨ar, cr, rfl⟩ := hkr.form
  obtain ⟨ao, co, rfl⟩ := hko.form
  generalize (fallF L n).length = no at *
  generalize (L.take n.toNat).length = nr at *
  have HKO := Go.Lib.hid hko
  have HOO := Go.Lib.hid hoo
  have HKR := Go.Lib.hid hkr
  have HOR := Go.Lib.hid hor
  have HB := Go.Lib.hid hb
  have x0 := H0.out.keep hb
  have x2 := H2.out.keep hb
  have X0 := Go.Lib.hid x0
  have X2 := Go.Lib.hid x2
  have e1 := x0.cell 1
  have e2 := x2.cell 0
  have f1 := x0.frozen 1
  have f2 := x2.frozen 0
  simp only [List.getElem?_cons_zero, List.getElem?_cons_succ] at e1 e2
  have l1 := x0.lt
  have l2 := x2.lt
  clear hko hoo hkr hor hb x0 x2 c1
  have hne' : b2 ≠ b0 := fun h => hne h.symm
  go_wp2_with fail
  go_end0
  obtain ⟨W6, hW6⟩ : ∃ W6, W6 = (w1.setCell ⟨b2, 0, none⟩ (.slice ao no co)).setCell ⟨b0, 1, none⟩ (.slice ar nr cr) := ⟨_, rfl⟩
  rw [← hW6]
  have F6 : Fr (fun k => k = b0 ∨ k = b2) w1 W6 := by rw [hW6]; exact ((Fr.refl (fun k => k = b0 ∨ k = b2) w1).setEq (.inr rfl) _).setEq (.inl rfl) _
  have g0 : Blk W6 b0 [.int .i64 c, .slice ar nr cr] 39 := by rw [hW6]; exact (X0.out.set_ne (a := ⟨b2, 0, none⟩) hne _).set 1 _
  have g2 : Blk W6 b2 [.slice ao no co] 26 := by rw [hW6]; exact (X2.out.set 0 _).set_ne (a := ⟨b0, 1, none⟩) hne' _
  have q0 := L0.out
  have q2 := L2.out
  exact ⟨rfl, ao, no, co, ar, nr, cr, g0, g2, HKR.out.fr F6 (fun g hg e => by have := HOR.out g hg; omega), HKO.out.fr F6 (fun g hg e => by have := HOO.out g hg; omega), HOR.out, HOO.out,
    below_fr (HB.out.mono hnw) F6 hnw (fun i hi => by omega), fun b cs T hbk n0 n2 => F6.blk (fun e => e.elim n0 n2) (hbk.keep HB.out)⟩
theorem capF_rng (c : Int) : 1 ≤ capF c ∧ capF c ≤ 1048576 := by unfold capF; split <;> (try split) <;> omega
set_option maxHeartbeats 3200000 in
theorem lrresize_any (c n : Int) (v : Value) (L : List Int) (w : World) (hn0 : -9223372036854775808 ≤ n) (hn1 : n ≤ 9223372036854775807) (hsm : L.length < 50000) (h : KL w v L) :
    Calls Try.prog 99 #[luV c v, .int .i64 n] w fun e w' => ∃ v' vo, e = .returned (.tuple #[luV (capF n) v', vo]) ∧ LNew w w' v' (L.take (capF n).toNat) ∧ KL w' vo (fallF L (capF n)) := by
  obtain ⟨a, cap, rfl⟩ := h.form
  obtain ⟨W, hW⟩ : ∃ W, W = ((w.alloc (.cells #[.int .i64 c, .slice a L.length cap] 39)).alloc (.cells #[.int .i64 0, .slice none 0 0] 39)).alloc (.cells #[.slice none 0 0] 26) := ⟨_, rfl⟩
  have b0 : Blk W w.heap.size [.int .i64 c, .slice a L.length cap] 39 := by rw [hW]; exact ((Blk.new0 w [.int .i64 c, .slice a L.length cap] 39).alloc _).alloc _
  have b1 : Blk W (w.heap.size + 1) [.int .i64 0, .slice none 0 0] 39 := by
    have q := Blk.new0 (w.alloc (.cells #[.int .i64 c, .slice a L.length cap] 39)) [.int .i64 0, .slice none 0 0] 39
    rw [World.size_alloc] at q
    rw [hW]; exact q.alloc _
  have b2 : Blk W (w.heap.size + 1 + 1) [.slice none 0 0] 26 := by
    have q := Blk.new0 ((w.alloc (.cells #[.int .i64 c, .slice a L.length cap] 39)).alloc (.cells #[.int .i64 0, .slice none 0 0] 39)) [.slice none 0 0] 26
    rw [World.size_alloc, World.size_alloc] at q
    rw [hW]; exact q
  have B0 : Below w.heap.size w W := by rw [hW]; exact (((Below.refl _ _).alloc (Nat.le_refl _) _).alloc (by simp) _).alloc (by simp; omega) _
  have hcp := capF_rng n
  obtain ⟨V, hV⟩ : ∃ V, V = W.setCell ⟨w.heap.size, 0, none⟩ (.int .i64 (capF n)) := ⟨_, rfl⟩
  have v0 : Blk V w.heap.size [.int .i64 (capF n), .slice a L.length cap] 39 := by rw [hV]; exact b0.set 0 _
  have v1 : Blk V (w.heap.size + 1) [.int .i64 0, .slice none 0 0] 39 := by rw [hV]; exact b1.set_ne (a := ⟨w.heap.size, 0, none⟩) (show w.heap.size + 1 ≠ w.heap.size by omega) _
  have v2 : Blk V (w.heap.size + 1 + 1) [.slice none 0 0] 26 := by rw [hV]; exact b2.set_ne (a := ⟨w.heap.size, 0, none⟩) (show w.heap.size + 1 + 1 ≠ w.heap.size by omega) _
  have FV : Fr (fun k => k = w.heap.size) W V := by rw [hV]; exact (Fr.refl (fun k => k = w.heap.size) W).setEq rfl _
  have BV : Below w.heap.size w V := below_fr B0 FV (Nat.le_refl _) (fun i hi => by omega)
  have KV : KL V (.slice a L.length cap) L := (h.keep B0).fr FV (fun g hg e => by have := (h.lt hg).1; omega)
  have HR := Go.Lib.hid (lrres1_any (capF n) (capF n) w.heap.size (w.heap.size + 1 + 1) w.heap.size a cap _ L V hsm (by omega) (by omega) v0 v2 KV (Nat.le_refl _) (by omega) (by omega) BV.size)
  have HC := Go.Lib.hid (lrcap_any n W hn0 hn1)
  have HW := Go.Lib.hid hW
  have HV := Go.Lib.hid hV
  have Hv0 := Go.Lib.hid v0
  have Hv1 := Go.Lib.hid v1
  have HBV := Go.Lib.hid BV
  have c0 := b0.cell 0
  have f0 := b0.frozen 0
  simp only [List.getElem?_cons_zero, List.getElem?_cons_succ] at c0
  have l0 := b0.lt
  have HL1 := Go.Lib.hid v1.lt
  have d0 := v0.cell 0
  simp only [List.getElem?_cons_zero, List.getElem?_cons_succ] at d0
  have dl := v0.lt
  clear h hW hV b0 b1 b2 v0 v1 v2 B0 FV BV KV
  generalize capF n = cc at *
  go_enter Try.func99, Try.ntmps99
  go_wp2_with fail
  rw [← HW.out]
  refine HC.out.mono ?_
  rintro e w1 ⟨rfl, rfl⟩
  go_wp2_with fail
  rw [← HV.out]
  refine HR.out.mono ?_
  rintro e w2 ⟨rfl, ao, no, co, ar, nr, cr, g0, g2, k1, k2, o1, o2, hb, hk⟩
  have y1 := hk _ _ _ Hv1.out (by omega) (by omega)
  have e0 := g0.cell 0
  have e1 := g0.cell 1
  have e2 := g2.cell 0
  have r0 := y1.cell 0
  have r1 := y1.cell 1
  have p0 := y1.frozen 0
  have p1 := y1.frozen 1
  simp only [List.getElem?_cons_zero, List.getElem?_cons_succ] at e0 e1 e2 r0 r1
  have m0 := g0.lt
  have m1 := y1.lt
  have m2 := g2.lt
  have Y1 := Go.Lib.hid y1
  have K1 := Go.Lib.hid k1
  have K2 := Go.Lib.hid k2
  have O1 := Go.Lib.hid o1
  have O2 := Go.Lib.hid o2
  have HB := Go.Lib.hid (HBV.out.trans hb)
  have HS0 := Go.Lib.hid ((⟨g0.drew.cell 0, g0.drew.cell 1, g2.drew.cell 0⟩ : w2.drew.cell? ⟨w.heap.size, 0, none⟩ = some (.int .i64 cc) ∧ w2.drew.cell? ⟨w.heap.size, 1, none⟩ = some (.slice ar nr cr) ∧ w2.drew.cell? ⟨w.heap.size + 1 + 1, 0, none⟩ = some (.slice ao no co)))
  have HS3 := Go.Lib.hid (fun x0 x1 => (have q0 := ((g0.drew).set_ne (a := ⟨w.heap.size + 1, 0, none⟩) (show w.heap.size ≠ w.heap.size + 1 by omega) x0).set_ne (a := ⟨w.heap.size + 1, 1, none⟩) (show w.heap.size ≠ w.heap.size + 1 by omega) x1; have q2 := ((g2.drew).set_ne (a := ⟨w.heap.size + 1, 0, none⟩) (show w.heap.size + 1 + 1 ≠ w.heap.size + 1 by omega) x0).set_ne (a := ⟨w.heap.size + 1, 1, none⟩) (show w.heap.size + 1 + 1 ≠ w.heap.size + 1 by omega) x1; (⟨q0.cell 0, q0.cell 1, q2.cell 0⟩ : ((w2.drew.setCell ⟨w.heap.size + 1, 0, none⟩ x0).setCell ⟨w.heap.size + 1, 1, none⟩ x1).cell? ⟨w.heap.size, 0, none⟩ = some (.int .i64 cc) ∧ ((w2.drew.setCell ⟨w.heap.size + 1, 0, none⟩ x0).setCell ⟨w.heap.size + 1, 1, none⟩ x1).cell? ⟨w.heap.size, 1, none⟩ = some (.slice ar nr cr) ∧ ((w2.drew.setCell ⟨w.heap.size + 1, 0, none⟩ x0).setCell ⟨w.heap.size + 1, 1, none⟩ x1).cell? ⟨w.heap.size + 1 + 1, 0, none⟩ = some (.slice ao no co))))
  clear g0 g2 k1 k2 o1 o2 hb hk y1 HR HC
  go_wp2_with fail
  go_region_held3 (fun W' => W'.cell? ⟨w.heap.size, 0, none⟩ = some (.int .i64 cc) ∧ W'.cell? ⟨w.heap.size, 1, none⟩ = some (.slice ar nr cr) ∧ W'.cell? ⟨w.heap.size + 1 + 1, 0, none⟩ = some (.slice ao no co))
    (first | with_reducible exact HS0.out | exact HS3.out _ _)
    (fail)
  obtain ⟨W6, hW6⟩ : ∃ W6, W6 = ((w2.setCell ⟨w.heap.size + 1, 0, none⟩ (.int .i64 cc)).setCell ⟨w.heap.size + 1, 1, none⟩ (.slice ar nr cr)).drew := ⟨_, rfl⟩
  have F6 : Fr (fun k => k = w.heap.size + 1) w2.drew W6 := by rw [hW6]; exact ((Fr.refl (fun k => k = w.heap.size + 1) w2.drew).setEq rfl _).setEq rfl _
  have b6 : Blk W6 (w.heap.size + 1) [.int .i64 cc, .slice ar nr cr] 39 := by rw [hW6]; exact (Y1.out.drew.set 0 _).set 1 _
  have BD : Below w.heap.size w w2.drew := HB.out.trans ((Below.refl _ _).drew.mono HB.out.size)
  have q1 := HL1.out
  have HN := Go.Lib.hid (⟨(K1.out.keep (Below.refl _ _).drew).fr F6 (fun g hg e => by have := O1.out g hg; omega), fun g hg => by have := O1.out g hg; have := HBV.out.size; omega, below_fr BD F6 (Nat.le_refl _) (fun i hi => by omega)⟩ : LNew w W6 (.slice ar nr cr) (L.take cc.toNat))
  have HO := Go.Lib.hid ((K2.out.keep (Below.refl _ _).drew).fr F6 (fun g hg e => by have := O2.out g hg; omega))
  rw [← hW6]
  clear hW6 F6 BD q1 e0 e1 e2 r0 r1 p0 p1
  have d0' := b6.cell 0
  have d1' := b6.cell 1
  simp only [List.getElem?_cons_zero, List.getElem?_cons_succ] at d0' d1'
  have dl' := b6.lt
  clear b6
  go_wp2_with fail
  refine bodyPost_ret (v := .tuple #[.agg #[.int .i64 cc, .slice ar nr cr], .slice ao no co]) (by simp [results, Try.results99, go_sem, d0', d1']) rfl ⟨.slice ar nr cr, .slice ao no co, rfl, HN.out, HO.out⟩
end Go.Proofs.Ytlakojncjldpbaa
