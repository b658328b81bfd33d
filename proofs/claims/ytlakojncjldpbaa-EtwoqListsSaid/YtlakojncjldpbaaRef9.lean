/- The reference of two queues: New, fall, reclaim. -/
import Derived.Test.YtlakojncjldpbaaTq
namespace Go.Proofs.Ytlakojncjldpbaa
open Go.RowKit Hop
set_option linter.unusedVariables false
set_option linter.unusedSimpArgs false
set_option maxRecDepth 100000
theorem own_cut {a : Option Addr} {n n' c c' b : Nat} (h : (Value.slice a n c).ownBlock = some b) : (Value.slice a n' c').ownBlock = some b := by
  cases a with
  | none => simp [Value.ownBlock] at h
  | some a => simp [Value.ownBlock] at h ⊢; exact h
/-- A list of keys is not touched where two blocks of other types are. -/
theorem KL.two {w w' : World} {v : Value} {L : List Int} (h : KL w v L) {A B : Nat} {cs cs' : List Value} {T T' : Nat} (hA : Blk w A cs T) (hB : Blk w B cs' T') (h1 : 31 ≠ T) (h2 : 31 ≠ T')
    (hf : Fr (fun k => k = A ∨ k = B) w w') : KL w' v L :=
  Row.frame h hf (fun b hb => by
    rintro (e | e)
    · exact h.ne hA h1 b hb e
    · exact h.ne hB h2 b hb e)
set_option maxHeartbeats 800000 in
theorem q9new_any (c : Int) (w : World) :
    Calls Try.prog 43 #[.int .i64 c] w fun e w' => e = .returned (.agg #[.int .i64 (capF c), .slice none 0 0, .slice none 0 0, .slice none 0 0]) ∧ Below w.heap.size w w' := by
  have HB := Go.Lib.hid ((Below.refl w.heap.size w).alloc (Nat.le_refl _) (.cells #[.int .i64 (capF c), .slice none 0 0, .slice none 0 0, .slice none 0 0] 60))
  go_enter Try.func43, Try.ntmps43
  go_wp2_with fail
  refine (cap_any c _).mono ?_
  rintro e w1 ⟨rfl, rfl⟩
  go_wp2_with fail
  refine bodyPost_ret (v := .agg #[.int .i64 (capF c), .slice none 0 0, .slice none 0 0, .slice none 0 0]) (by simp [results, Try.results43, go_sem]) rfl ⟨rfl, HB.out⟩
set_option maxHeartbeats 3200000 in
theorem q9fall_any (c : Int) (v1 v2 v3 : Value) (i o m : List Int) (w : World) (hc : 0 ≤ c ∧ c ≤ 1048576) (h1 : KL w v1 i) (h2 : KL w v2 o) (h3 : KL w v3 m) :
    Calls Try.prog 184 #[.agg #[.int .i64 c, v1, v2, v3]] w fun e w' => ∃ v2', e = .returned (.agg #[.int .i64 c, v1, v2', v3]) ∧ KL w' v1 i ∧ KL w' v2' (o.take (c / 2).toNat) ∧ KL w' v3 m ∧ (∀ b, v2'.ownBlock = some b → v2.ownBlock = some b) ∧ Below w.heap.size w w' := by
  obtain ⟨hc0, hc1⟩ := hc
  obtain ⟨a1, cap1, rfl⟩ := h1.form
  obtain ⟨a2, cap2, rfl⟩ := h2.form
  obtain ⟨a3, cap3, rfl⟩ := h3.form
  have hle := h2.le
  unfold maxLen at hle
  generalize hl1 : i.length = l1 at *
  generalize hl3 : m.length = l3 at *
  have B0 := ((Below.refl w.heap.size w).alloc (Nat.le_refl _) (.cells #[.int .i64 c, .slice a1 l1 cap1, .slice a2 o.length cap2, .slice a3 l3 cap3] 60)).alloc (by simp) (.cells #[.int .i64 0, .slice none 0 0, .slice none 0 0, .slice none 0 0] 60)
  obtain ⟨W, hW⟩ : ∃ W, W = (w.alloc (.cells #[.int .i64 c, .slice a1 l1 cap1, .slice a2 o.length cap2, .slice a3 l3 cap3] 60)).alloc (.cells #[.int .i64 0, .slice none 0 0, .slice none 0 0, .slice none 0 0] 60) := ⟨_, rfl⟩
  have b0 : Blk W w.heap.size [.int .i64 c, .slice a1 l1 cap1, .slice a2 o.length cap2, .slice a3 l3 cap3] 60 := by rw [hW]; exact (Blk.new0 w [.int .i64 c, .slice a1 l1 cap1, .slice a2 o.length cap2, .slice a3 l3 cap3] 60).alloc _
  have b1 : Blk W (w.heap.size + 1) [.int .i64 0, .slice none 0 0, .slice none 0 0, .slice none 0 0] 60 := by rw [hW]; exact Blk.new1 w _ [.int .i64 0, .slice none 0 0, .slice none 0 0, .slice none 0 0] 60
  rw [← hW] at B0
  have H1 := Go.Lib.hid h1
  have H2 := Go.Lib.hid h2
  have H3 := Go.Lib.hid h3
  have HB0 := Go.Lib.hid B0
  have HW := Go.Lib.hid hW
  have Hb0 := Go.Lib.hid b0
  have Hb1 := Go.Lib.hid b1
  have hol : ∃ N, N = (c / 2).toNat := ⟨_, rfl⟩
  obtain ⟨N, hN⟩ := hol
  have hN2 : (N : Int) = c / 2 := by omega
  rw [← hN]
  clear hW b0 b1 B0 h1 h2 h3 hN
  go_enter Try.func184, Try.ntmps184
  go_wp2_with fail
  rw [← HW.out]
  go_loopg [] o.length (fun g wr => g ≤ o.length ∧ (N ≤ g ∨ g = o.length) ∧ Blk wr w.heap.size [.int .i64 c, .slice a1 l1 cap1, .slice a2 g cap2, .slice a3 l3 cap3] 60 ∧ Blk wr (w.heap.size + 1) [.int .i64 0, .slice none 0 0, .slice none 0 0, .slice none 0 0] 60 ∧ Below w.heap.size w wr)
  case atStart => exact ⟨Nat.le_refl _, .inr rfl, Hb0.out, Hb1.out, HB0.out⟩
  case round =>
    obtain ⟨hg, hng, hb0, hb1, hbb⟩ := hrel
    have c0 := hb0.cell 0
    have c1 := hb0.cell 1
    have c2 := hb0.cell 2
    have c3 := hb0.cell 3
    have d0 := hb1.cell 0
    have d1 := hb1.cell 1
    have d2 := hb1.cell 2
    have d3 := hb1.cell 3
    have f0 := hb1.frozen 0
    have f1 := hb1.frozen 1
    have f2 := hb1.frozen 2
    have f3 := hb1.frozen 3
    have f4 := hb0.frozen 2
    simp only [List.getElem?_cons_zero, List.getElem?_cons_succ] at c0 c1 c2 c3 d0 d1 d2 d3
    have l0 := hb0.lt
    have l1' := hb1.lt
    have HB0 := Go.Lib.hid hb0
    have HB1 := Go.Lib.hid hb1
    have HBB := Go.Lib.hid hbb
    have HN := Go.Lib.hid hng
    have hgc : gk ≤ cap2 := by
      rcases H2.out.2 with ⟨e1, e2⟩ | ⟨g, cap', cs, e1, e2, e3, e4⟩
      · injection e1 with q1 q2 q3; omega
      · injection e1 with q1 q2 q3; omega
    by_cases hlt : N < gk
    · have HS := Go.Lib.hid (hb0.set 2 (.slice a2 (gk - 1) cap2))
      have HS1 := Go.Lib.hid (hb1.set_ne (a := ⟨w.heap.size, 2, none⟩) (by show w.heap.size + 1 ≠ w.heap.size; omega) (.slice a2 (gk - 1) cap2))
      have HBS := Go.Lib.hid (below_set (o := 2) hbb (Nat.le_refl _) (.slice a2 (gk - 1) cap2))
      obtain ⟨j, rfl⟩ : ∃ j, gk = j + 1 := ⟨gk - 1, by omega⟩
      simp only [Nat.add_sub_cancel] at HS HS1 HBS
      clear hb0 hb1 hbb hng
      go_wp2_with fail
      go_roundg j
      case rel => exact ⟨by omega, .inl (by omega), HS.out, HS1.out, HBS.out⟩
      case measure => omega
    · have ht : o.take N = o.take gk := by
        rcases HN.out with h | h
        · rw [show gk = N by omega]
        · rw [h, List.take_length, List.take_of_length_le (by omega)]
      have HT := Go.Lib.hid ht
      clear hb0 hb1 hbb hng ht
      go_wp2_with fail
      refine bodyPost_ret (v := .agg #[.int .i64 c, .slice a1 l1 cap1, .slice a2 gk cap2, .slice a3 l3 cap3]) (by simp [results, Try.results184, go_sem, d0, d1, d2, d3]) rfl ⟨_, rfl, ?_, ?_, ?_, fun b hb => own_cut hb, ?_⟩
      · exact (H1.out.keep HBB.out).two HB0.out HB1.out (by decide) (by decide) (by repeat' (first | exact Fr.refl _ _ | refine Fr.setEq ?_ ?_ _ | exact .inl rfl | exact .inr rfl))
      · rw [HT.out]
        exact ((H2.out.keep HBB.out).take hg).two HB0.out HB1.out (by decide) (by decide) (by repeat' (first | exact Fr.refl _ _ | refine Fr.setEq ?_ ?_ _ | exact .inl rfl | exact .inr rfl))
      · exact (H3.out.keep HBB.out).two HB0.out HB1.out (by decide) (by decide) (by repeat' (first | exact Fr.refl _ _ | refine Fr.setEq ?_ ?_ _ | exact .inl rfl | exact .inr rfl))
      · repeat' (first | exact HBB.out | refine below_set ?_ ?_ _ | omega)
/-- Its own and its result's block, ahead of a walk. -/
theorem two_blocks (w : World) (X Y : List Value) (T : Nat) : ∃ W, W = (w.alloc (.cells X.toArray T)).alloc (.cells Y.toArray T) ∧ Blk W w.heap.size X T ∧ Blk W (w.heap.size + 1) Y T ∧ Below w.heap.size w W :=
  ⟨_, rfl, (Blk.new0 w X T).alloc _, Blk.new1 w _ Y T, ((Below.refl w.heap.size w).alloc (Nat.le_refl _) _).alloc (by simp) _⟩
set_option maxHeartbeats 6400000 in
theorem q9recl_in (c : Int) (v1 v2 v3 : Value) (i : List Int) (x : Int) (o m : List Int) (w : World) (hc : 1 ≤ c ∧ c ≤ 1048576) (hsm : o.length < 50000) (hcond : kinT c < ((i ++ [x]).length : Int) ∨ m = []) (h1 : KL w v1 (i ++ [x])) (h2 : KL w v2 o) (h3 : KL w v3 m) :
    Calls Try.prog 221 #[.agg #[.int .i64 c, v1, v2, v3]] w fun e w' => ∃ v1' v2' v3', e = .returned (.tuple #[.agg #[.int .i64 c, v1', v2', v3'], .int .u64 x]) ∧ KL w' v1' i ∧ KL w' v2' ((x :: wo o x).take (c / 2).toNat) ∧ KL w' v3' m ∧ ((∀ b, v1'.ownBlock = some b → v1.ownBlock = some b) ∧ (∀ b, v2'.ownBlock = some b → w.heap.size ≤ b) ∧ (∀ b, v3'.ownBlock = some b → v3.ownBlock = some b)) ∧ Below w.heap.size w w' := by
  obtain ⟨hc0, hc1⟩ := hc
  obtain ⟨a1, cap1, rfl⟩ := h1.form
  obtain ⟨a2, cap2, rfl⟩ := h2.form
  obtain ⟨a3, cap3, rfl⟩ := h3.form
  have hle := h1.le
  have hcap : i.length + 1 ≤ cap1 := by
    rcases h1.2 with ⟨e1, e2⟩ | ⟨g, cap', cs, e1, e2, e3, e4⟩
    · simp at e2
    · injection e1 with q1 q2 q3; simp at e3; omega
  have hlx : (i ++ [x]).length = i.length + 1 := by simp
  have hkin : kinT c = max (c / 4) 1 := rfl
  rw [hlx] at h1 hle hcond ⊢
  rw [hkin] at hcond
  unfold maxLen at hle
  have hm : ((max (c / 4) 1 < ((i.length + 1 : Nat) : Int))) ∨ (¬ (max (c / 4) 1 < ((i.length + 1 : Nat) : Int)) ∧ m.length = 0) := by
    by_cases h : (max (c / 4) 1 < ((i.length + 1 : Nat) : Int))
    · exact .inl h
    · rcases hcond with h' | h'
      · exact absurd h' h
      · exact .inr ⟨h, by rw [h']; rfl⟩
  clear hcond
  generalize hl2 : o.length = l2 at *
  generalize hl3 : m.length = l3 at *
  have HL2 := Go.Lib.hid hl2
  have HL3 := Go.Lib.hid hl3
  clear hl2 hl3
  obtain ⟨W, hW, b0, b1, B0⟩ := two_blocks w [.int .i64 c, .slice a1 (i.length + 1) cap1, .slice a2 l2 cap2, .slice a3 l3 cap3] [.int .i64 0, .slice none 0 0, .slice none 0 0, .slice none 0 0] 60
  have k1 : KL W (.slice a1 (i.length + 1) cap1) (i ++ [x]) := h1.keep B0
  have k1' : KL W (.slice a1 i.length cap1) i := by
    have := k1.take (m := i.length) (by simp)
    rwa [List.take_left'] at this
    rfl
  have k2 := h2.keep B0
  have k3 := h3.keep B0
  have HBK := Go.Lib.hid (back_key _ i x W k1)
  have HB0 := Go.Lib.hid B0
  have HW := Go.Lib.hid hW
  have Hb1 := Go.Lib.hid b1
  have c0 := b0.cell 0
  have c1 := b0.cell 1
  have c2 := b0.cell 2
  have c3 := b0.cell 3
  have f1 := b0.frozen 1
  simp only [List.getElem?_cons_zero, List.getElem?_cons_succ] at c0 c1 c2 c3
  have l0 := b0.lt
  have l1 := b1.lt
  -- behind the first store
  have N1 : Fr (fun k => k = w.heap.size ∨ k = w.heap.size + 1) W (W.setCell ⟨w.heap.size, 1, none⟩ (.slice a1 i.length cap1)) := (Fr.refl _ _).setEq (.inl rfl) _
  have K1 := Go.Lib.hid (k1'.two b0 b1 (by decide) (by decide) N1)
  have K3 := Go.Lib.hid (k3.two b0 b1 (by decide) (by decide) N1)
  have HFR := Go.Lib.hid (front_any _ o x _ (by rw [HL2.out]; exact hsm) (k2.two b0 b1 (by decide) (by decide) N1))
  have HS0 : Hid (Blk (W.setCell ⟨w.heap.size, 1, none⟩ (.slice a1 i.length cap1)) w.heap.size [.int .i64 c, .slice a1 i.length cap1, .slice a2 l2 cap2, .slice a3 l3 cap3] 60) := Go.Lib.hid (b0.set 1 (.slice a1 i.length cap1))
  have HS1 := Go.Lib.hid (b1.set_ne (a := ⟨w.heap.size, 1, none⟩) (by show w.heap.size + 1 ≠ w.heap.size; omega) (.slice a1 i.length cap1))
  have HBS := Go.Lib.hid (below_set (o := 1) B0 (Nat.le_refl _) (.slice a1 i.length cap1))
  have HT : Hid (c / 2 = c / 2) := Go.Lib.hid rfl
  have e3 : ∀ (N : Nat), (List.take N (x :: wo o x)) = List.take N (x :: wo o x) := fun _ => rfl
  generalize hL2 : x :: wo o x = L2 at *
  clear hW B0 h1 h2 h3 k1 k1' k2 k3 hlx hkin b0 b1 N1 e3 hL2
  by_cases hk : c / 4 < 1 <;> rcases hm with hm | ⟨hm, rfl⟩
  all_goals
    first
    | (have hq : (i.length : Int) + 1 ≤ 1 := by omega); clear hm
    | (have hq : (i.length : Int) + 1 ≤ c / 4 := by omega); clear hm
    | (have hq : 1 < (i.length : Int) + 1 := by omega); (have hq' : c / 4 < (i.length : Int) + 1 := by omega); clear hm
    go_enter Try.func221, Try.ntmps221
    go_wp2_with fail
    any_goals (first | (exfalso; omega) | skip)
    rw [← HW.out]
    refine HBK.out.mono ?_
    rintro e w1 ⟨rfl, rfl⟩
    go_wp2_with fail
    refine HFR.out.mono ?_
    rintro e w2 ⟨v2, rfl, hk2, ho2, hb2⟩
    obtain ⟨a4, cap4, rfl⟩ := hk2.form
    have b0 := HS0.out.keep hb2
    have b1 := HS1.out.keep hb2
    have g0 := b0.cell 0
    have g1 := b0.cell 1
    have g2 := b0.cell 2
    have g3 := b0.cell 3
    have f2 := b0.frozen 2
    simp only [List.getElem?_cons_zero, List.getElem?_cons_succ] at g0 g1 g2 g3
    have m0 := b0.lt
    have m1 := b1.lt
    have N2 : Fr (fun k => k = w.heap.size ∨ k = w.heap.size + 1) w2 (w2.setCell ⟨w.heap.size, 2, none⟩ (.slice a4 L2.length cap4)) := (Fr.refl _ _).setEq (.inl rfl) _
    have q1 := (K1.out.keep hb2).two b0 b1 (by decide) (by decide) N2
    have q2 := hk2.two b0 b1 (by decide) (by decide) N2
    have q3 := (K3.out.keep hb2).two b0 b1 (by decide) (by decide) N2
    have HFL := Go.Lib.hid (q9fall_any c _ _ _ i L2 m _ ⟨by omega, hc1⟩ q1 q2 q3)
    have HS2 := Go.Lib.hid (b1.set_ne (a := ⟨w.heap.size, 2, none⟩) (by show w.heap.size + 1 ≠ w.heap.size; omega) (.slice a4 L2.length cap4))
    have HB2 := Go.Lib.hid (below_set (o := 2) (HBS.out.trans (hb2.mono HBS.out.size)) (Nat.le_refl _) (.slice a4 L2.length cap4))
    have ho2' := ho2
    clear b0 b1 hk2 ho2 hb2 N2 q1 q2 q3 c0 c1 c2 c3 f1 l0 l1
    have HO2 := Go.Lib.hid ho2'
    clear ho2'
    go_wp2_with fail
    refine HFL.out.mono ?_
    rintro e w3 ⟨v3', rfl, hk1, hk2, hk3, how, hb3⟩
    have HOW : Hid (∀ b, v3'.ownBlock = some b → w.heap.size ≤ b) := Go.Lib.hid (fun b hb => by have h1 := HO2.out b (how b hb); have h2 := HBS.out.size; omega)
    obtain ⟨a5, cap5, rfl⟩ := hk2.form
    generalize hL3 : L2.take (c / 2).toNat = L3 at *
    have HLT := Go.Lib.hid hL3
    have b1 := HS2.out.keep hb3
    have d0 := b1.cell 0
    have d1 := b1.cell 1
    have d2 := b1.cell 2
    have d3 := b1.cell 3
    have f0 := b1.frozen 0
    have f1 := b1.frozen 1
    have f2' := b1.frozen 2
    have f3 := b1.frozen 3
    simp only [List.getElem?_cons_zero, List.getElem?_cons_succ] at d0 d1 d2 d3
    have l1 := b1.lt
    have HB3 := Go.Lib.hid (HB2.out.trans (hb3.mono HB2.out.size))
    have J1 := Go.Lib.hid hk1
    have J2 := Go.Lib.hid hk2
    have J3 := Go.Lib.hid hk3
    have Jb := Go.Lib.hid b1
    clear how hk1 hk2 hk3 hb3 b1 g0 g1 g2 g3 f2 m0 m1 hL3
    go_wp2_with fail
    refine bodyPost_ret (v := .tuple #[.agg #[.int .i64 c, .slice a1 i.length cap1, .slice a5 L3.length cap5, .slice a3 _ cap3], .int .u64 x]) (by simp [results, Try.results221, go_sem, d0, d1, d2, d3]; rfl) rfl ⟨_, _, _, rfl, ?_, ?_, ?_, ⟨fun b hb => own_cut hb, HOW.out, fun b hb => own_cut hb⟩, ?_⟩
    · exact J1.out.two Jb.out Jb.out (by decide) (by decide) (by repeat' (first | exact Fr.refl _ _ | refine Fr.setEq ?_ ?_ _ | exact .inl rfl | exact .inr rfl))
    · rw [HLT.out]
      exact J2.out.two Jb.out Jb.out (by decide) (by decide) (by repeat' (first | exact Fr.refl _ _ | refine Fr.setEq ?_ ?_ _ | exact .inl rfl | exact .inr rfl))
    · exact J3.out.two Jb.out Jb.out (by decide) (by decide) (by repeat' (first | exact Fr.refl _ _ | refine Fr.setEq ?_ ?_ _ | exact .inl rfl | exact .inr rfl))
    · repeat' (first | exact HB3.out | refine below_set ?_ ?_ _ | omega)
set_option maxHeartbeats 6400000 in
theorem q9recl_main (c : Int) (v1 v2 v3 : Value) (i o m : List Int) (x : Int) (w : World) (hc : 1 ≤ c ∧ c ≤ 1048576) (hcond : ¬ kinT c < (i.length : Int)) (h1 : KL w v1 i) (h2 : KL w v2 o) (h3 : KL w v3 (m ++ [x])) :
    Calls Try.prog 221 #[.agg #[.int .i64 c, v1, v2, v3]] w fun e w' => ∃ v1' v2' v3', e = .returned (.tuple #[.agg #[.int .i64 c, v1', v2', v3'], .int .u64 x]) ∧ KL w' v1' i ∧ KL w' v2' o ∧ KL w' v3' m ∧ ((∀ b, v1'.ownBlock = some b → v1.ownBlock = some b) ∧ (∀ b, v2'.ownBlock = some b → v2.ownBlock = some b) ∧ (∀ b, v3'.ownBlock = some b → v3.ownBlock = some b)) ∧ Below w.heap.size w w' := by
  obtain ⟨hc0, hc1⟩ := hc
  obtain ⟨a1, cap1, rfl⟩ := h1.form
  obtain ⟨a2, cap2, rfl⟩ := h2.form
  obtain ⟨a3, cap3, rfl⟩ := h3.form
  have hle := h3.le
  have hle1 := h1.le
  have hcap : m.length + 1 ≤ cap3 := by
    rcases h3.2 with ⟨e1, e2⟩ | ⟨g, cap', cs, e1, e2, e3, e4⟩
    · simp at e2
    · injection e1 with q1 q2 q3; simp at e3; omega
  have hlx : (m ++ [x]).length = m.length + 1 := by simp
  have hkin : kinT c = max (c / 4) 1 := rfl
  rw [hlx] at h3 hle ⊢
  rw [hkin] at hcond
  unfold maxLen at hle hle1
  generalize hl1 : i.length = l1 at *
  generalize hl2 : o.length = l2 at *
  clear hl1 hl2
  obtain ⟨W, hW, b0, b1, B0⟩ := two_blocks w [.int .i64 c, .slice a1 l1 cap1, .slice a2 l2 cap2, .slice a3 (m.length + 1) cap3] [.int .i64 0, .slice none 0 0, .slice none 0 0, .slice none 0 0] 60
  have k3 : KL W (.slice a3 (m.length + 1) cap3) (m ++ [x]) := h3.keep B0
  have k3' : KL W (.slice a3 m.length cap3) m := by
    have := k3.take (m := m.length) (by simp)
    rwa [List.take_left'] at this
    rfl
  have K1 := Go.Lib.hid (h1.keep B0)
  have K2 := Go.Lib.hid (h2.keep B0)
  have K3 := Go.Lib.hid k3'
  have HBK := Go.Lib.hid (back_key _ m x W k3)
  have HB0 := Go.Lib.hid B0
  have HW := Go.Lib.hid hW
  have Hb0 := Go.Lib.hid b0
  have Hb1 := Go.Lib.hid b1
  have c0 := b0.cell 0
  have c1 := b0.cell 1
  have c2 := b0.cell 2
  have c3 := b0.cell 3
  have f0 := b0.frozen 3
  have d0 := b1.cell 0
  have d1 := b1.cell 1
  have d2 := b1.cell 2
  have d3 := b1.cell 3
  have f1 := b1.frozen 0
  have f2 := b1.frozen 1
  have f3 := b1.frozen 2
  have f4 := b1.frozen 3
  simp only [List.getElem?_cons_zero, List.getElem?_cons_succ] at c0 c1 c2 c3 d0 d1 d2 d3
  have l0 := b0.lt
  have l1' := b1.lt
  clear hW B0 h1 h2 h3 k3 k3' hlx hkin b0 b1
  by_cases hk : c / 4 < 1
  all_goals
    first
    | (have hq : (l1 : Int) ≤ 1 := by omega); clear hcond
    | (have hq : (l1 : Int) ≤ c / 4 := by omega); clear hcond
    go_enter Try.func221, Try.ntmps221
    go_wp2_with fail
    any_goals (first | (exfalso; omega) | skip)
    rw [← HW.out]
    refine HBK.out.mono ?_
    rintro e w1 ⟨rfl, rfl⟩
    go_wp2_with fail
    refine bodyPost_ret (v := .tuple #[.agg #[.int .i64 c, .slice a1 l1 cap1, .slice a2 l2 cap2, .slice a3 m.length cap3], .int .u64 x]) (by simp [results, Try.results221, go_sem, c0, c1, c2, c3, d0, d1, d2, d3]) rfl ⟨_, _, _, rfl, ?_, ?_, ?_, ⟨fun b hb => own_cut hb, fun b hb => own_cut hb, fun b hb => own_cut hb⟩, ?_⟩
    · exact K1.out.two Hb0.out Hb1.out (by decide) (by decide) (by repeat' (first | exact Fr.refl _ _ | refine Fr.setEq ?_ ?_ _ | exact .inl rfl | exact .inr rfl))
    · exact K2.out.two Hb0.out Hb1.out (by decide) (by decide) (by repeat' (first | exact Fr.refl _ _ | refine Fr.setEq ?_ ?_ _ | exact .inl rfl | exact .inr rfl))
    · exact K3.out.two Hb0.out Hb1.out (by decide) (by decide) (by repeat' (first | exact Fr.refl _ _ | refine Fr.setEq ?_ ?_ _ | exact .inl rfl | exact .inr rfl))
    · repeat' (first | exact HB0.out | refine below_set ?_ ?_ _ | omega)
/-- A slice's block is another's, or new. -/
def Ow (w : World) (v v' : Value) : Prop := ∀ b, v'.ownBlock = some b → v.ownBlock = some b ∨ w.heap.size ≤ b
/-- A round of the reference. -/
theorem q9recl_any (c : Int) (v1 v2 v3 : Value) (i o m : List Int) (w : World) (hc : 1 ≤ c ∧ c ≤ 1048576) (hsm : o.length < 50000) (hne : 0 < i.length + m.length) (h1 : KL w v1 i) (h2 : KL w v2 o) (h3 : KL w v3 m) :
    Calls Try.prog 221 #[.agg #[.int .i64 c, v1, v2, v3]] w fun e w' => ∃ v1' v2' v3', e = .returned (.tuple #[.agg #[.int .i64 c, v1', v2', v3'], .int .u64 (reclT ⟨c, i, o, m⟩).2]) ∧ KL w' v1' (reclT ⟨c, i, o, m⟩).1.i ∧ KL w' v2' (reclT ⟨c, i, o, m⟩).1.o ∧ KL w' v3' (reclT ⟨c, i, o, m⟩).1.m ∧ (Ow w v1 v1' ∧ Ow w v2 v2' ∧ Ow w v3 v3') ∧ Below w.heap.size w w' := by
  rcases recl_cases c i o m hne with ⟨i', x, rfl, hcond, e⟩ | ⟨m', x, rfl, hcond, e⟩
  · rw [e]
    refine (q9recl_in c v1 v2 v3 i' x o m w hc hsm hcond h1 h2 h3).mono ?_
    rintro e' w' ⟨v1', v2', v3', rfl, g1, g2, g3, ⟨g4, g5, g6⟩, hb⟩
    exact ⟨v1', v2', v3', rfl, g1, g2, g3, ⟨fun b h => .inl (g4 b h), fun b h => .inr (g5 b h), fun b h => .inl (g6 b h)⟩, hb⟩
  · rw [e]
    refine (q9recl_main c v1 v2 v3 i o m' x w hc hcond h1 h2 h3).mono ?_
    rintro e' w' ⟨v1', v2', v3', rfl, g1, g2, g3, ⟨g4, g5, g6⟩, hb⟩
    exact ⟨v1', v2', v3', rfl, g1, g2, g3, ⟨fun b h => .inl (g4 b h), fun b h => .inl (g5 b h), fun b h => .inl (g6 b h)⟩, hb⟩
end Go.Proofs.Ytlakojncjldpbaa
