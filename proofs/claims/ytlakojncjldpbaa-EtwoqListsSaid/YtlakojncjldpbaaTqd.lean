/- The cache of two queues over a store: Has, Touch, Drop, Ghosts, Rooms, New, Admit, Resize. -/
import Derived.Test.YtlakojncjldpbaaTqc
namespace Go.Proofs.Ytlakojncjldpbaa
open Go.RowKit Hop
set_option linter.unusedVariables false
set_option linter.unusedSimpArgs false
set_option maxRecDepth 100000
/-- The cache, with its keys and its capacity; these blocks are its own. -/
def Tqa (w : World) (px : Nat) (O : Nat → Prop) (s : TS) (p : Nat) : Prop :=
  ∃ ps O1, Blk w px [P0 ps, .int .i64 s.c] 121 ∧ Sta w ps O1 (qN [s.i, s.o, s.m]) p ∧ ¬ O1 px ∧ O = (fun k => k = px ∨ O1 k)
theorem Tqa.keep {w w' : World} {px : Nat} {O : Nat → Prop} {s : TS} {p : Nat} (h : Tqa w px O s p) (hb : Below w.heap.size w w') : Tqa w' px O s p := by
  obtain ⟨ps, O1, h1, h2, h3⟩ := h
  exact ⟨ps, O1, h1.keep hb, h2.keep hb, h3⟩
theorem Tqa.lt {w : World} {px : Nat} {O : Nat → Prop} {s : TS} {p : Nat} (h : Tqa w px O s p) {k : Nat} (hk : O k) : k < w.heap.size := by
  obtain ⟨ps, O1, h1, h2, h3, rfl⟩ := h
  rcases hk with rfl | hk
  · exact h1.lt
  · exact h2.lt hk
theorem Tqa.qok {w : World} {px : Nat} {O : Nat → Prop} {s : TS} {p : Nat} (h : Tqa w px O s p) : Qok (qN [s.i, s.o, s.m]) p := by
  obtain ⟨ps, O1, h1, h2, h3, rfl⟩ := h
  exact h2.qok
theorem Tqa.len {w : World} {px : Nat} {O : Nat → Prop} {s : TS} {p : Nat} (h : Tqa w px O s p) : s.i.length + s.o.length + s.m.length ≤ p ∧ p < 50000 := by
  have q := h.qok
  have := q.tot
  rw [tot_qN] at this
  simp at this
  exact ⟨by omega, q.p4⟩
theorem twS_c (c : Int) (v1 v2 v3 : Value) (w : World) : (Instr.field 66 (.agg #[.int .i64 c, v1, v2, v3]) 0).run Try.prog w = .ok (.int .i64 c) w := by kernel_rfl
set_option maxHeartbeats 800000 in
theorem twnew_any (c : Int) (w : World) :
    Calls Try.prog 103 #[.int .i64 c] w fun e w' => e = .returned (.agg #[.int .i64 (capF c), .slice none 0 0, .slice none 0 0, .slice none 0 0]) ∧ Below w.heap.size w w' := by
  have HB := Go.Lib.hid ((Below.refl w.heap.size w).alloc (Nat.le_refl _) (.cells #[.int .i64 (capF c), .slice none 0 0, .slice none 0 0, .slice none 0 0] 66))
  by_cases h1 : c < 1
  · have e : capF c = 1 := by unfold capF; rw [if_pos h1]
    rw [e] at HB ⊢
    clear e
    go_enter Try.func103, Try.ntmps103
    go_wp2_with fail
    all_goals first | (exfalso; omega) | exact bodyPost_ret (v := .agg #[.int .i64 1, .slice none 0 0, .slice none 0 0, .slice none 0 0]) (by simp [results, Try.results103, go_sem]) rfl ⟨rfl, HB.out⟩
  · by_cases h2 : 1048576 < c
    · have e : capF c = 1048576 := by unfold capF; rw [if_neg h1, if_pos h2]
      rw [e] at HB ⊢
      clear e
      go_enter Try.func103, Try.ntmps103
      go_wp2_with fail
      all_goals first | (exfalso; omega) | exact bodyPost_ret (v := .agg #[.int .i64 1048576, .slice none 0 0, .slice none 0 0, .slice none 0 0]) (by simp [results, Try.results103, go_sem]) rfl ⟨rfl, HB.out⟩
    · have e : capF c = c := by unfold capF; rw [if_neg h1, if_neg h2]
      rw [e] at HB ⊢
      clear e
      have hm : min (max c 1) 1048576 = c := by omega
      go_enter Try.func103, Try.ntmps103
      go_wp2_with fail
      all_goals first | (exfalso; omega) | exact bodyPost_ret (v := .agg #[.int .i64 c, .slice none 0 0, .slice none 0 0, .slice none 0 0]) (by simp [results, Try.results103, go_sem]) rfl ⟨rfl, HB.out⟩ | (simp only [hm]; exact bodyPost_ret (v := .agg #[.int .i64 c, .slice none 0 0, .slice none 0 0, .slice none 0 0]) (by simp [results, Try.results103, go_sem]) rfl ⟨rfl, HB.out⟩) | trace_state
section
variable {ps : Nat} {O : Nat → Prop} {p : Nat} {s : TS}
set_option maxHeartbeats 800000 in
theorem thas_any (px : Nat) (k : Int) (w : World) (hk0 : 0 ≤ k) (hk1 : k < 18446744073709551616) (H : Tqa w px O s p) :
    Calls Try.prog 50 #[P0 px, .int .u64 k] w fun e w' => e = .returned (.bool (decide (k ∈ s.i ++ s.m))) ∧ Below w.heap.size w w' := by
  obtain ⟨ps, O1, hx, hs, hn, rfl⟩ := H
  have c0 := hx.cell 0
  simp only [List.getElem?_cons_zero, List.getElem?_cons_succ] at c0
  obtain ⟨n1, n2, n3, n4, n5⟩ := nd_three hs.qok
  have hF : Calls Try.prog 118 #[P0 ps, .int .u64 k] w fun e w' => ∃ (t : Int) (ok : Bool), e = .returned (.tuple #[.int .i64 t, .bool ok]) ∧ Below w.heap.size w w' ∧ ((ok = true ∧ ((t = 0 ∧ decide (k ∈ s.i ++ s.m) = true) ∨ (t = 2 ∧ decide (k ∈ s.i ++ s.m) = true) ∨ (t = 1 ∧ decide (k ∈ s.i ++ s.m) = false))) ∨ (ok = false ∧ decide (k ∈ s.i ++ s.m) = false)) := by
    refine (find_k k w hk0 hk1 hs).mono ?_
    rintro e w' ⟨t, ok, rfl, hb, h⟩
    refine ⟨t, ok, rfl, hb, ?_⟩
    rcases h with ⟨h1, h2, h3⟩ | ⟨h1, h2, h3⟩
    · refine .inl ⟨h1, ?_⟩
      match t, h2, h3 with
      | 0, _, h3 => exact .inl ⟨rfl, decide_eq_true (List.mem_append_left _ (by simpa using h3))⟩
      | 1, _, h3 =>
        have ho : k ∈ s.o := by simpa using h3
        exact .inr (.inr ⟨rfl, decide_eq_false (fun h => by
          rcases List.mem_append.1 h with h | h
          · exact (n4 k h).1 ho
          · exact n5 k ho h)⟩)
      | 2, _, h3 => exact .inr (.inl ⟨rfl, decide_eq_true (List.mem_append_right _ (by simpa using h3))⟩)
      | t + 3, h2, _ => simp at h2; omega
    · refine .inr ⟨h1, decide_eq_false (fun h => h3 ?_)⟩
      rcases List.mem_append.1 h with h | h
      · simp [h]
      · simp [h]
  have HF := Go.Lib.hid hF
  clear hF hs hn n1 n2 n3 n4 n5
  generalize decide (k ∈ s.i ++ s.m) = b at *
  go_enter Try.func50, Try.ntmps50
  go_wp2_with fail
  refine HF.out.mono ?_
  rintro e w1 ⟨t, ok, rfl, hb, h⟩
  have HB := Go.Lib.hid hb
  clear hb
  rcases h with ⟨rfl, ⟨rfl, rfl⟩ | ⟨rfl, rfl⟩ | ⟨rfl, rfl⟩⟩ | ⟨rfl, rfl⟩
  all_goals
    go_wp2_with fail
    go_ret
    exact ⟨rfl, HB.out⟩
set_option maxHeartbeats 800000 in
theorem ttouch_any (px : Nat) (k : Int) (w : World) (hk0 : 0 ≤ k) (hk1 : k < 18446744073709551616) (H : Tqa w px O s p) :
    Calls Try.prog 56 #[P0 px, .int .u64 k] w fun e w' => e = .returned (.tuple #[]) ∧ ∃ O', Tqa w' px O' (touchT s k) p ∧ Chg O O' w w' := by
  obtain ⟨ps, O1, hx, hs, hn, rfl⟩ := H
  have c0 := hx.cell 0
  simp only [List.getElem?_cons_zero, List.getElem?_cons_succ] at c0
  obtain ⟨n1, n2, n3, n4, n5⟩ := nd_three hs.qok
  have hF : Calls Try.prog 118 #[P0 ps, .int .u64 k] w fun e w' => ∃ (t : Int) (ok : Bool), e = .returned (.tuple #[.int .i64 t, .bool ok]) ∧ Below w.heap.size w w' ∧ ((ok = true ∧ t = 2 ∧ k ∈ s.m) ∨ (ok = true ∧ (t = 0 ∨ t = 1) ∧ k ∉ s.m) ∨ (ok = false ∧ k ∉ s.m)) := by
    refine (find_k k w hk0 hk1 hs).mono ?_
    rintro e w' ⟨t, ok, rfl, hb, h⟩
    refine ⟨t, ok, rfl, hb, ?_⟩
    rcases h with ⟨h1, h2, h3⟩ | ⟨h1, h2, h3⟩
    · match t, h2, h3 with
      | 0, _, h3 => exact .inr (.inl ⟨h1, .inl rfl, fun h => (n4 k (by simpa using h3)).2 h⟩)
      | 1, _, h3 => exact .inr (.inl ⟨h1, .inr rfl, n5 k (by simpa using h3)⟩)
      | 2, _, h3 => exact .inl ⟨h1, rfl, by simpa using h3⟩
      | t + 3, h2, _ => simp at h2; omega
    · exact .inr (.inr ⟨h1, fun h => h3 (by simp [h])⟩)
  have HF := Go.Lib.hid hF
  have HMV := Go.Lib.hid (fun w' (hk : k ∈ s.m) (h : Sta w' ps O1 (qN [s.i, s.o, s.m]) p) => by
    have h' := move_k 2 k w' hk0 hk1 (by simp) (by simp [hk]) h
    have e : (([s.i, s.o, s.m].map (fun L => wo L k)).set 2 (k :: ([s.i, s.o, s.m].map (fun L => wo L k)).getD 2 [])) = [s.i, s.o, k :: wo s.m k] := by
      simp only [List.map_cons, List.map_nil, List.set_cons_succ, List.set_cons_zero, List.getD_cons_succ, List.getD_cons_zero]
      rw [wo_id (fun h => (n4 k h).2 hk), wo_id (fun h => n5 k h hk)]
    rw [e] at h'
    exact h')
  have HT : Hid (touchT s k = if k ∈ s.m then ⟨s.c, s.i, s.o, k :: wo s.m k⟩ else s) := Go.Lib.hid rfl
  have HX := Go.Lib.hid hx
  have HS := Go.Lib.hid hs
  have HN := Go.Lib.hid hn
  clear hF hs hn n1 n2 n3 n4 n5 hx
  go_enter Try.func56, Try.ntmps56
  go_wp2_with fail
  refine HF.out.mono ?_
  rintro e w1 ⟨t, ok, rfl, hb, h⟩
  have hx1 := HX.out.keep hb
  have d0 := hx1.cell 0
  simp only [List.getElem?_cons_zero, List.getElem?_cons_succ] at d0
  have HB := Go.Lib.hid hb
  have HX1 := Go.Lib.hid hx1
  have HS1 := Go.Lib.hid (HS.out.keep hb)
  clear hb hx1 c0
  rcases h with ⟨rfl, rfl, hk⟩ | ⟨rfl, ht, hk⟩ | ⟨rfl, hk⟩
  · have HM := Go.Lib.hid (HMV.out w1 hk HS1.out)
    rw [if_pos hk] at HT
    clear hk
    go_wp2_with fail
    refine HM.out.mono ?_
    rintro e w2 ⟨rfl, O2, h3, h4⟩
    have H3 := Go.Lib.hid h3
    have H4 := Go.Lib.hid h4
    clear h3 h4
    go_wp2_with fail
    go_end0
    refine ⟨rfl, _, ⟨ps, O2, H4.out.blk HN.out (by rw [HT.out]; exact HX1.out), ?_, H4.out.not HX1.out.lt HN.out, rfl⟩, (Chg.of_below HB.out).trans (chg_up px H4.out)⟩
    rw [HT.out]; exact H3.out
  · rw [if_neg hk] at HT
    clear hk
    rcases ht with rfl | rfl
    all_goals
      go_wp2_with fail
      go_end0
      refine ⟨rfl, _, ⟨ps, O1, by rw [HT.out]; exact HX1.out, by rw [HT.out]; exact HS1.out, HN.out, rfl⟩, Chg.of_below HB.out⟩
  · rw [if_neg hk] at HT
    clear hk
    go_wp2_with fail
    go_end0
    refine ⟨rfl, _, ⟨ps, O1, by rw [HT.out]; exact HX1.out, by rw [HT.out]; exact HS1.out, HN.out, rfl⟩, Chg.of_below HB.out⟩
set_option maxHeartbeats 800000 in
theorem tdrop_any (px : Nat) (k : Int) (w : World) (hk0 : 0 ≤ k) (hk1 : k < 18446744073709551616) (H : Tqa w px O s p) :
    Calls Try.prog 57 #[P0 px, .int .u64 k] w fun e w' => e = .returned (.tuple #[]) ∧ ∃ O', Tqa w' px O' (dropT s k) p ∧ Chg O O' w w' := by
  obtain ⟨ps, O1, hx, hs, hn, rfl⟩ := H
  have c0 := hx.cell 0
  simp only [List.getElem?_cons_zero, List.getElem?_cons_succ] at c0
  have HM := Go.Lib.hid (remove_k k w hk0 hk1 hs)
  have HX := Go.Lib.hid hx
  have HN := Go.Lib.hid hn
  clear hs hn hx
  go_enter Try.func57, Try.ntmps57
  go_wp2_with fail
  refine HM.out.mono ?_
  rintro e w1 ⟨rfl, O2, h3, h4⟩
  have H3 := Go.Lib.hid h3
  have H4 := Go.Lib.hid h4
  clear h3 h4
  go_wp2_with fail
  go_end0
  exact ⟨rfl, _, ⟨ps, O2, H4.out.blk HN.out HX.out, H3.out, H4.out.not HX.out.lt HN.out, rfl⟩, chg_up px H4.out⟩
set_option maxHeartbeats 400000 in
theorem tghosts_any (px : Nat) (w : World) (H : Tqa w px O s p) :
    Calls Try.prog 51 #[P0 px] w fun e w' => e = .returned (.int .i64 s.o.length) ∧ w = w' := by
  obtain ⟨ps, O1, hx, hs, hn, rfl⟩ := H
  have c0 := hx.cell 0
  simp only [List.getElem?_cons_zero, List.getElem?_cons_succ] at c0
  have HM := Go.Lib.hid (len_k 1 w (by simp) hs)
  clear hs hn hx
  go_enter Try.func51, Try.ntmps51
  go_wp2_with fail
  refine HM.out.mono ?_
  rintro e w1 ⟨rfl, rfl⟩
  go_wp2_with fail
  go_ret
  exact ⟨rfl, rfl⟩
set_option maxHeartbeats 800000 in
theorem trooms_any (px : Nat) (w : World) (H : Tqa w px O s p) :
    Calls Try.prog 54 #[P0 px] w fun e w' => ∃ a b : Nat, e = .returned (.tuple #[.int .i64 a, .int .i64 b]) ∧ Below w.heap.size w w' ∧ s.i.length + s.m.length ≤ a ∧ s.i.length + s.m.length ≤ b ∧ a ≤ 8 + 2 * p ∧ 3 * b ≤ 24 + 8 * p := by
  obtain ⟨ps, O1, hx, hs, hn, rfl⟩ := H
  have c0 := hx.cell 0
  simp only [List.getElem?_cons_zero, List.getElem?_cons_succ] at c0
  have HR := Go.Lib.hid (rooms_k w hs)
  clear hs hn hx
  go_enter Try.func54, Try.ntmps54
  go_wp2_with fail
  refine HR.out.mono ?_
  rintro e w1 ⟨a, b, rfl, hb, h1, h2, h3, h4, h5⟩
  have HB := Go.Lib.hid hb
  simp only [List.map_cons, List.map_nil, List.sum_cons, List.sum_nil] at h1 h2
  have HRR : Hid (s.i.length + s.m.length ≤ a ∧ s.i.length + s.m.length ≤ b ∧ a ≤ 8 + 2 * p ∧ 3 * b ≤ 24 + 8 * p) := Go.Lib.hid ⟨by omega, by omega, h3, h4⟩
  clear hb h1 h2 h3 h4 h5
  go_wp2_with fail
  go_ret2
  exact ⟨a, b, rfl, HB.out, HRR.out⟩
end
set_option maxHeartbeats 800000 in
theorem tnew_any' (n : Int) (w : World) :
    Calls Try.prog 42 #[.int .i64 n] w fun e w' => ∃ px O', e = .returned (P0 px) ∧ Tqa w' px O' ⟨capF n, [], [], []⟩ 0 ∧ (∀ k, O' k → w.heap.size ≤ k) ∧ Below w.heap.size w w' := by
  have f0 := twS_c
  go_enter Try.func42, Try.ntmps42
  go_wp2_with fail
  refine (new_sta 3 w (by omega) (by omega)).mono ?_
  rintro e w1 ⟨ps, rfl, hge, O, hs, ho, hb⟩
  have HS := Go.Lib.hid hs
  have HO := Go.Lib.hid ho
  have HB := Go.Lib.hid hb
  clear hs ho hb
  go_wp2_with fail
  refine (twnew_any n w1).mono ?_
  rintro e w2 ⟨rfl, hb2⟩
  have HB2 := Go.Lib.hid hb2
  clear hb2
  go_wp2_with fail
  go_ret
  have sz1 := HB.out.size
  have sz2 := HB2.out.size
  have B2 := HB.out.trans (HB2.out.mono sz1)
  have A := (Below.refl w2.heap.size w2).alloc (Nat.le_refl _) (.cells #[P0 ps, .int .i64 (capF n)] 121)
  have S2 := HS.out.keep HB2.out
  refine ⟨w2.heap.size, _, rfl, ⟨ps, O, Blk.new0 w2 [P0 ps, .int .i64 (capF n)] 121, S2.keep A, fun h => by have := S2.lt h; omega, rfl⟩, ?_, B2.alloc (by omega) _⟩
  rintro k (rfl | hk)
  · omega
  · exact HO.out k hk
end Go.Proofs.Ytlakojncjldpbaa
