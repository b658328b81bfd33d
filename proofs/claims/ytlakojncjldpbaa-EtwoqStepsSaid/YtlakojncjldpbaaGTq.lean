/- The cache of two queues over a store: Has, Touch, Drop, Ghosts, Rooms, New, Admit, Resize. -/
import Derived.Test.YtlakojncjldpbaaTqc
import Derived.Test.YtlakojncjldpbaaApp
import Derived.Lib.AppendZerosOnto
namespace Go.Proofs.Ytlakojncjldpbaa
open Go.RowKit Hop
set_option linter.unusedVariables false
set_option linter.unusedSimpArgs false
set_option maxRecDepth 100000
/-- The cache, with its keys and its capacity; these blocks are its own. -/
def Tqa (w : World) (px : Nat) (O : Nat → Prop) (s : TS) (p : Nat) : Prop :=
  ∃ ps O1, Blk w px [P0 ps, .int .i64 s.c] 121 ∧ Sta w ps O1 (qN [s.i, s.o, s.m]) p ∧ ¬ O1 px ∧ O = (fun k => k = px ∨ O1 k)
theorem Tqa.keep {w w' : World} {px : Nat} {O : Nat → Prop} {s : TS} {p : Nat} (h : Tqa w px O s p) (hb : Below w.heap.size w w') : Tqa w' px O s p := by
  obtain ⟨ps, O1, h1, h2, h3⟩ := h
  exact ⟨ps, O1, h1.keep hb, h2.keep hb, h3⟩
theorem Tqa.lt {w : World} {px : Nat} {O : Nat → Prop} {s : TS} {p : Nat} (h : Tqa w px O s p) {k : Nat} (hk : O k) : k < w.heap.size := by
  obtain ⟨ps, O1, h1, h2, h3, rfl⟩ := h
  rcases hk with rfl | hk
  · exact h1.lt
  · exact h2.lt hk
theorem Tqa.qok {w : World} {px : Nat} {O : Nat → Prop} {s : TS} {p : Nat} (h : Tqa w px O s p) : Qok (qN [s.i, s.o, s.m]) p := by
  obtain ⟨ps, O1, h1, h2, h3, rfl⟩ := h
  exact h2.qok
theorem Tqa.len {w : World} {px : Nat} {O : Nat → Prop} {s : TS} {p : Nat} (h : Tqa w px O s p) : s.i.length + s.o.length + s.m.length ≤ p ∧ p < 50000 := by
  have q := h.qok
  have := q.tot
  rw [tot_qN] at this
  simp at this
  exact ⟨by omega, q.p4⟩
theorem twS_c (c : Int) (v1 v2 v3 : Value) (w : World) : (Instr.field 66 (.agg #[.int .i64 c, v1, v2, v3]) 0).run Try.prog w = .ok (.int .i64 c) w := by kernel_rfl
set_option maxHeartbeats 800000 in
theorem twnew_any (c : Int) (w : World) :
    Calls Try.prog 103 #[.int .i64 c] w fun e w' => e = .returned (.agg #[.int .i64 (capF c), .slice none 0 0, .slice none 0 0, .slice none 0 0]) ∧ Below w.heap.size w w' := by
  have HB := Go.Lib.hid ((Below.refl w.heap.size w).alloc (Nat.le_refl _) (.cells #[.int .i64 (capF c), .slice none 0 0, .slice none 0 0, .slice none 0 0] 66))
  by_cases h1 : c < 1
  · have e : capF c = 1 := by unfold capF; rw [if_pos h1]
    rw [e] at HB ⊢
    clear e
    go_enter Try.func103, Try.ntmps103
    go_wp2_with fail
    all_goals first | (exfalso; omega) | exact bodyPost_ret (v := .agg #[.int .i64 1, .slice none 0 0, .slice none 0 0, .slice none 0 0]) (by simp [results, Try.results103, go_sem]) rfl ⟨rfl, HB.out⟩
  · by_cases h2 : 1048576 < c
    · have e : capF c = 1048576 := by unfold capF; rw [if_neg h1, if_pos h2]
      rw [e] at HB ⊢
      clear e
      go_enter Try.func103, Try.ntmps103
      go_wp2_with fail
      all_goals first | (exfalso; omega) | exact bodyPost_ret (v := .agg #[.int .i64 1048576, .slice none 0 0, .slice none 0 0, .slice none 0 0]) (by simp [results, Try.results103, go_sem]) rfl ⟨rfl, HB.out⟩
    · have e : capF c = c := by unfold capF; rw [if_neg h1, if_neg h2]
      rw [e] at HB ⊢
      clear e
      have hm : min (max c 1) 1048576 = c := by omega
      go_enter Try.func103, Try.ntmps103
      go_wp2_with fail
      all_goals first | (exfalso; omega) | exact bodyPost_ret (v := .agg #[.int .i64 c, .slice none 0 0, .slice none 0 0, .slice none 0 0]) (by simp [results, Try.results103, go_sem]) rfl ⟨rfl, HB.out⟩ | (simp only [hm]; exact bodyPost_ret (v := .agg #[.int .i64 c, .slice none 0 0, .slice none 0 0, .slice none 0 0]) (by simp [results, Try.results103, go_sem]) rfl ⟨rfl, HB.out⟩) | trace_state
section
variable {ps : Nat} {O : Nat → Prop} {p : Nat} {s : TS}
set_option maxHeartbeats 800000 in
theorem thas_any (px : Nat) (k : Int) (w : World) (hk0 : 0 ≤ k) (hk1 : k < 18446744073709551616) (H : Tqa w px O s p) :
    Calls Try.prog 50 #[P0 px, .int .u64 k] w fun e w' => e = .returned (.bool (decide (k ∈ s.i ++ s.m))) ∧ Below w.heap.size w w' := by
  obtain ⟨ps, O1, hx, hs, hn, rfl⟩ := H
  have c0 := hx.cell 0
  simp only [List.getElem?_cons_zero, List.getElem?_cons_succ] at c0
  obtain ⟨n1, n2, n3, n4, n5⟩ := nd_three hs.qok
  have hF : Calls Try.prog 118 #[P0 ps, .int .u64 k] w fun e w' => ∃ (t : Int) (ok : Bool), e = .returned (.tuple #[.int .i64 t, .bool ok]) ∧ Below w.heap.size w w' ∧ ((ok = true ∧ ((t = 0 ∧ decide (k ∈ s.i ++ s.m) = true) ∨ (t = 2 ∧ decide (k ∈ s.i ++ s.m) = true) ∨ (t = 1 ∧ decide (k ∈ s.i ++ s.m) = false))) ∨ (ok = false ∧ decide (k ∈ s.i ++ s.m) = false)) := by
    refine (find_k k w hk0 hk1 hs).mono ?_
    rintro e w' ⟨t, ok, rfl, hb, h⟩
    refine ⟨t, ok, rfl, hb, ?_⟩
    rcases h with ⟨h1, h2, h3⟩ | ⟨h1, h2, h3⟩
    · refine .inl ⟨h1, ?_⟩
      match t, h2, h3 with
      | 0, _, h3 => exact .inl ⟨rfl, decide_eq_true (List.mem_append_left _ (by simpa using h3))⟩
      | 1, _, h3 =>
        have ho : k ∈ s.o := by simpa using h3
        exact .inr (.inr ⟨rfl, decide_eq_false (fun h => by
          rcases List.mem_append.1 h with h | h
          · exact (n4 k h).1 ho
          · exact n5 k ho h)⟩)
      | 2, _, h3 => exact .inr (.inl ⟨rfl, decide_eq_true (List.mem_append_right _ (by simpa using h3))⟩)
      | t + 3, h2, _ => simp at h2; omega
    · refine .inr ⟨h1, decide_eq_false (fun h => h3 ?_)⟩
      rcases List.mem_append.1 h with h | h
      · simp [h]
      · simp [h]
  have HF := Go.Lib.hid hF
  clear hF hs hn n1 n2 n3 n4 n5
  generalize decide (k ∈ s.i ++ s.m) = b at *
  go_enter Try.func50, Try.ntmps50
  go_wp2_with fail
  refine HF.out.mono ?_
  rintro e w1 ⟨t, ok, rfl, hb, h⟩
  have HB := Go.Lib.hid hb
  clear hb
  rcases h with ⟨rfl, ⟨rfl, rfl⟩ | ⟨rfl, rfl⟩ | ⟨rfl, rfl⟩⟩ | ⟨rfl, rfl⟩
  all_goals
    go_wp2_with fail
    go_ret
    exact ⟨rfl, HB.out⟩
set_option maxHeartbeats 800000 in
theorem ttouch_any (px : Nat) (k : Int) (w : World) (hk0 : 0 ≤ k) (hk1 : k < 18446744073709551616) (H : Tqa w px O s p) :
    Calls Try.prog 56 #[P0 px, .int .u64 k] w fun e w' => e = .returned (.tuple #[]) ∧ ∃ O', Tqa w' px O' (touchT s k) p ∧ Chg O O' w w' := by
  obtain ⟨ps, O1, hx, hs, hn, rfl⟩ := H
  have c0 := hx.cell 0
  simp only [List.getElem?_cons_zero, List.getElem?_cons_succ] at c0
  obtain ⟨n1, n2, n3, n4, n5⟩ := nd_three hs.qok
  have hF : Calls Try.prog 118 #[P0 ps, .int .u64 k] w fun e w' => ∃ (t : Int) (ok : Bool), e = .returned (.tuple #[.int .i64 t, .bool ok]) ∧ Below w.heap.size w w' ∧ ((ok = true ∧ t = 2 ∧ k ∈ s.m) ∨ (ok = true ∧ (t = 0 ∨ t = 1) ∧ k ∉ s.m) ∨ (ok = false ∧ k ∉ s.m)) := by
    refine (find_k k w hk0 hk1 hs).mono ?_
    rintro e w' ⟨t, ok, rfl, hb, h⟩
    refine ⟨t, ok, rfl, hb, ?_⟩
    rcases h with ⟨h1, h2, h3⟩ | ⟨h1, h2, h3⟩
    · match t, h2, h3 with
      | 0, _, h3 => exact .inr (.inl ⟨h1, .inl rfl, fun h => (n4 k (by simpa using h3)).2 h⟩)
      | 1, _, h3 => exact .inr (.inl ⟨h1, .inr rfl, n5 k (by simpa using h3)⟩)
      | 2, _, h3 => exact .inl ⟨h1, rfl, by simpa using h3⟩
      | t + 3, h2, _ => simp at h2; omega
    · exact .inr (.inr ⟨h1, fun h => h3 (by simp [h])⟩)
  have HF := Go.Lib.hid hF
  have HMV := Go.Lib.hid (fun w' (hk : k ∈ s.m) (h : Sta w' ps O1 (qN [s.i, s.o, s.m]) p) => by
    have h' := move_k 2 k w' hk0 hk1 (by simp) (by simp [hk]) h
    have e : (([s.i, s.o, s.m].map (fun L => wo L k)).set 2 (k :: ([s.i, s.o, s.m].map (fun L => wo L k)).getD 2 [])) = [s.i, s.o, k :: wo s.m k] := by
      simp only [List.map_cons, List.map_nil, List.set_cons_succ, List.set_cons_zero, List.getD_cons_succ, List.getD_cons_zero]
      rw [wo_id (fun h => (n4 k h).2 hk), wo_id (fun h => n5 k h hk)]
    rw [e] at h'
    exact h')
  have HT : Hid (touchT s k = if k ∈ s.m then ⟨s.c, s.i, s.o, k :: wo s.m k⟩ else s) := Go.Lib.hid rfl
  have HX := Go.Lib.hid hx
  have HS := Go.Lib.hid hs
  have HN := Go.Lib.hid hn
  clear hF hs hn n1 n2 n3 n4 n5 hx
  go_enter Try.func56, Try.ntmps56
  go_wp2_with fail
  refine HF.out.mono ?_
  rintro e w1 ⟨t, ok, rfl, hb, h⟩
  have hx1 := HX.out.keep hb
  have d0 := hx1.cell 0
  simp only [List.getElem?_cons_zero, List.getElem?_cons_succ] at d0
  have HB := Go.Lib.hid hb
  have HX1 := Go.Lib.hid hx1
  have HS1 := Go.Lib.hid (HS.out.keep hb)
  clear hb hx1 c0
  rcases h with ⟨rfl, rfl, hk⟩ | ⟨rfl, ht, hk⟩ | ⟨rfl, hk⟩
  · have HM := Go.Lib.hid (HMV.out w1 hk HS1.out)
    rw [if_pos hk] at HT
    clear hk
    go_wp2_with fail
    refine HM.out.mono ?_
    rintro e w2 ⟨rfl, O2, h3, h4⟩
    have H3 := Go.Lib.hid h3
    have H4 := Go.Lib.hid h4
    clear h3 h4
    go_wp2_with fail
    go_end0
    refine ⟨rfl, _, ⟨ps, O2, H4.out.blk HN.out (by rw [HT.out]; exact HX1.out), ?_, H4.out.not HX1.out.lt HN.out, rfl⟩, (Chg.of_below HB.out).trans (chg_up px H4.out)⟩
    rw [HT.out]; exact H3.out
  · rw [if_neg hk] at HT
    clear hk
    rcases ht with rfl | rfl
    all_goals
      go_wp2_with fail
      go_end0
      refine ⟨rfl, _, ⟨ps, O1, by rw [HT.out]; exact HX1.out, by rw [HT.out]; exact HS1.out, HN.out, rfl⟩, Chg.of_below HB.out⟩
  · rw [if_neg hk] at HT
    clear hk
    go_wp2_with fail
    go_end0
    refine ⟨rfl, _, ⟨ps, O1, by rw [HT.out]; exact HX1.out, by rw [HT.out]; exact HS1.out, HN.out, rfl⟩, Chg.of_below HB.out⟩
set_option maxHeartbeats 800000 in
theorem tdrop_any (px : Nat) (k : Int) (w : World) (hk0 : 0 ≤ k) (hk1 : k < 18446744073709551616) (H : Tqa w px O s p) :
    Calls Try.prog 57 #[P0 px, .int .u64 k] w fun e w' => e = .returned (.tuple #[]) ∧ ∃ O', Tqa w' px O' (dropT s k) p ∧ Chg O O' w w' := by
  obtain ⟨ps, O1, hx, hs, hn, rfl⟩ := H
  have c0 := hx.cell 0
  simp only [List.getElem?_cons_zero, List.getElem?_cons_succ] at c0
  have HM := Go.Lib.hid (remove_k k w hk0 hk1 hs)
  have HX := Go.Lib.hid hx
  have HN := Go.Lib.hid hn
  clear hs hn hx
  go_enter Try.func57, Try.ntmps57
  go_wp2_with fail
  refine HM.out.mono ?_
  rintro e w1 ⟨rfl, O2, h3, h4⟩
  have H3 := Go.Lib.hid h3
  have H4 := Go.Lib.hid h4
  clear h3 h4
  go_wp2_with fail
  go_end0
  exact ⟨rfl, _, ⟨ps, O2, H4.out.blk HN.out HX.out, H3.out, H4.out.not HX.out.lt HN.out, rfl⟩, chg_up px H4.out⟩
set_option maxHeartbeats 400000 in
theorem tghosts_any (px : Nat) (w : World) (H : Tqa w px O s p) :
    Calls Try.prog 51 #[P0 px] w fun e w' => e = .returned (.int .i64 s.o.length) ∧ w = w' := by
  obtain ⟨ps, O1, hx, hs, hn, rfl⟩ := H
  have c0 := hx.cell 0
  simp only [List.getElem?_cons_zero, List.getElem?_cons_succ] at c0
  have HM := Go.Lib.hid (len_k 1 w (by simp) hs)
  clear hs hn hx
  go_enter Try.func51, Try.ntmps51
  go_wp2_with fail
  refine HM.out.mono ?_
  rintro e w1 ⟨rfl, rfl⟩
  go_wp2_with fail
  go_ret
  exact ⟨rfl, rfl⟩
set_option maxHeartbeats 800000 in
theorem trooms_any (px : Nat) (w : World) (H : Tqa w px O s p) :
    Calls Try.prog 54 #[P0 px] w fun e w' => ∃ a b : Nat, e = .returned (.tuple #[.int .i64 a, .int .i64 b]) ∧ Below w.heap.size w w' ∧ s.i.length + s.m.length ≤ a ∧ s.i.length + s.m.length ≤ b ∧ a ≤ 8 + 2 * p ∧ 3 * b ≤ 24 + 8 * p := by
  obtain ⟨ps, O1, hx, hs, hn, rfl⟩ := H
  have c0 := hx.cell 0
  simp only [List.getElem?_cons_zero, List.getElem?_cons_succ] at c0
  have HR := Go.Lib.hid (rooms_k w hs)
  clear hs hn hx
  go_enter Try.func54, Try.ntmps54
  go_wp2_with fail
  refine HR.out.mono ?_
  rintro e w1 ⟨a, b, rfl, hb, h1, h2, h3, h4, h5⟩
  have HB := Go.Lib.hid hb
  simp only [List.map_cons, List.map_nil, List.sum_cons, List.sum_nil] at h1 h2
  have HRR : Hid (s.i.length + s.m.length ≤ a ∧ s.i.length + s.m.length ≤ b ∧ a ≤ 8 + 2 * p ∧ 3 * b ≤ 24 + 8 * p) := Go.Lib.hid ⟨by omega, by omega, h3, h4⟩
  clear hb h1 h2 h3 h4 h5
  go_wp2_with fail
  go_ret2
  exact ⟨a, b, rfl, HB.out, HRR.out⟩
end
set_option maxHeartbeats 800000 in
theorem tnew_any' (n : Int) (w : World) :
    Calls Try.prog 42 #[.int .i64 n] w fun e w' => ∃ px O', e = .returned (P0 px) ∧ Tqa w' px O' ⟨capF n, [], [], []⟩ 0 ∧ (∀ k, O' k → w.heap.size ≤ k) ∧ Below w.heap.size w w' := by
  have f0 := twS_c
  go_enter Try.func42, Try.ntmps42
  go_wp2_with fail
  refine (new_sta 3 w (by omega) (by omega)).mono ?_
  rintro e w1 ⟨ps, rfl, hge, O, hs, ho, hb⟩
  have HS := Go.Lib.hid hs
  have HO := Go.Lib.hid ho
  have HB := Go.Lib.hid hb
  clear hs ho hb
  go_wp2_with fail
  refine (twnew_any n w1).mono ?_
  rintro e w2 ⟨rfl, hb2⟩
  have HB2 := Go.Lib.hid hb2
  clear hb2
  go_wp2_with fail
  go_ret
  have sz1 := HB.out.size
  have sz2 := HB2.out.size
  have B2 := HB.out.trans (HB2.out.mono sz1)
  have A := (Below.refl w2.heap.size w2).alloc (Nat.le_refl _) (.cells #[P0 ps, .int .i64 (capF n)] 121)
  have S2 := HS.out.keep HB2.out
  refine ⟨w2.heap.size, _, rfl, ⟨ps, O, Blk.new0 w2 [P0 ps, .int .i64 (capF n)] 121, S2.keep A, fun h => by have := S2.lt h; omega, rfl⟩, ?_, B2.alloc (by omega) _⟩
  rintro k (rfl | hk)
  · omega
  · exact HO.out k hk
end Go.Proofs.Ytlakojncjldpbaa

namespace Go.Proofs.Ytlakojncjldpbaa
open Go.RowKit Hop
set_option linter.unusedVariables false
set_option linter.unusedSimpArgs false
set_option maxRecDepth 100000
theorem wpList_append_zeros {P : Program} (w : World) {ops : Array Oper} {rest : List Oper} {o : Oper} {a : Act} {Q : Exit → Act → World → Prop}
    (hg : o.guard = none) (s x : Operand) (t tn : TypeId) (hop : o.op = Op.call { callee := Callee.builtin Builtin.append, args := #[s, x], argTypes := #[t, tn] })
    (E : TypeId) (z : Value) (bytes : Nat) (kn : IntKind) (h1 : P.underlying t = some (.slice E)) (htn : P.underlying tn = some (.int kn)) (hinfo : (P.info? E).map (fun i => (i.zero, i.size, i.bytes)) = some (some z, 1, bytes)) (h6 : z.cells.size = 1)
    (hs : a.eval s = .slice none 0 0) (k : Nat) (hx : a.eval x = .int .i64 k) (h0 : 0 < k) (hk : k ≤ 1000000) (hb : k * bytes ≤ 140737488355328)
    (hK : ∀ cap w', Row w' E 1 (.slice (some ⟨w.heap.size, 0, none⟩) 0 cap) 0 [] → k ≤ cap → cap ≤ maxLen → Below w.heap.size w w' → wpList P ops Q rest (a.put o.dst (.slice (some ⟨w.heap.size, 0, none⟩) k cap)) w') :
    wpList P ops Q (o :: rest) a w := by
  obtain ⟨i, hi, hz, hsz, hby⟩ := info_parts hinfo
  refine wpList_plain hg fun K hK' => ?_
  have hold : (Builtin.firstCells i.size 0 (.slice none 0 0)).run P w.drew = .ok ([] : List Value).toArray w.drew := run_firstCells_none w.drew i.size 0 0 0
  have hrun := Lib.run_append_grow_zeros (P := P) w t tn o.type E i z .i64 kn h1 htn hi hz none 0 0 [] hold k h0 (by omega) (by omega) (by omega) (by rw [hby]; omega) (growslice_fits (by omega) (by rw [hby, Nat.zero_add]; exact hb))
  rw [Nat.zero_add] at hrun
  have hge : k ≤ grownCap w k 0 E := grownCap_ge w k 0 E
  have hle : grownCap w k 0 E ≤ maxLen := grownCap_le_maxLen w k 0 E (by unfold maxLen; omega)
  unfold Oper.wp
  simp [execOp, hop, resolve, invoke, builtin, hs, hx, hrun, Result.andThen]
  refine hK' _ _ (hK _ _ ⟨by simp, .inr ⟨w.heap.size, _, (Builtin.zeroCells z.cells k ++ Builtin.zeroCells z.cells (grownCap w k 0 E - k)).toList, rfl, ?_, Nat.zero_le _, hle, ?_, by simp⟩⟩ hge hle ?_)
  · have h := Blk.new0 w.drew (Builtin.zeroCells z.cells k ++ Builtin.zeroCells z.cells (grownCap w k 0 E - k)).toList E
    rw [Array.toArray_toList] at h
    exact h
  · rw [Array.length_toList, Array.size_append, size_zeroCells, size_zeroCells, h6]
    omega
  · exact (Below.refl w.heap.size w).drew.alloc (Nat.le_refl _) _
set_option maxHeartbeats 800000 in
theorem sgrow_nil (n : Nat) (w : World) (hn : n ≤ 1000000) :
    Calls Try.prog 185 #[.slice none 0 0, .int .i64 n] w fun e w' => ∃ v, e = .returned v ∧ Row w' 31 1 v 0 [] ∧ (∀ b, v.ownBlock = some b → w.heap.size ≤ b) ∧ Below w.heap.size w w' := by
  rcases Nat.eq_zero_or_pos n with rfl | h0
  · go_enter Try.func185, Try.ntmps185
    go_wp2_with fail
    go_ret
    exact ⟨_, rfl, Row.nil _ _ _, fun b hb => (by cases hb), Below.refl _ _⟩
  · have h0' : (0 : Int) < n := by omega
    have hn' : (n : Int) ≤ 1000000 := by omega
    go_enter Try.func185, Try.ntmps185
    go_wp2_with (at_builtin; refine wpList_append_zeros _ rfl (.tmp 20) (.tmp 21) 26 3 rfl 31 (.int .u64 0) 8 .i64 Try.underlying26 Try.underlying3 u64_info rfl rfl n rfl h0 hn ?b1 ?next)
    case b1 => omega
    case next =>
      intro cap w' hr hge hle hb
      have HR := Go.Lib.hid hr
      have HB := Go.Lib.hid hb
      unfold maxLen at hle
      clear hr hb
      go_wp2_with fail
      go_ret
      exact ⟨_, rfl, HR.out, fun b hb => (by
        have e : w.heap.size = b := by simpa [Value.ownBlock] using hb
        omega), HB.out⟩
set_option maxHeartbeats 3200000 in
theorem sconcat2_any (B : Nat) (v1 v2 : Value) (L1 L2 : List Int) (w : World) (hl : L1.length + L2.length < 100000) (hb : Blk w B [v1, v2] 26) (h1 : KL w v1 L1) (h2 : KL w v2 L2) :
    Calls Try.prog 127 #[.slice (some ⟨B, 0, none⟩) 2 2] w fun e w' => ∃ v, e = .returned v ∧ KL w' v (L1 ++ L2) ∧ Below w.heap.size w w' := by
  obtain ⟨a1, p1, rfl⟩ := h1.form
  obtain ⟨a2, p2, rfl⟩ := h2.form
  have c0 := hb.cell 0
  have c1 := hb.cell 1
  simp only [List.getElem?_cons_zero, List.getElem?_cons_succ] at c0 c1
  have lb := hb.lt
  have HB := Go.Lib.hid hb
  have H1 := Go.Lib.hid h1
  have H2 := Go.Lib.hid h2
  have HG := Go.Lib.hid (sgrow_nil (L1.length + L2.length) w (by omega))
  have hl1 : L1.length < 100000 := by omega
  have hl2 : L2.length < 100000 := by omega
  have HL := Go.Lib.hid hl
  clear hb h1 h2 hl
  go_enter Try.func127, Try.ntmps127
  go_wp2_with fail
  go_loopg [3, 11] 2 (fun g m i wr => wr = w ∧ ((g = 2 ∧ m = .int .i64 0 ∧ i = .int .i64 0) ∨ (g = 1 ∧ m = .int .i64 L1.length ∧ i = .int .i64 1) ∨ (g = 0 ∧ m = .int .i64 ((L1.length + L2.length : Nat) : Int) ∧ i = .int .i64 2)))
  case atStart => exact ⟨rfl, .inl ⟨rfl, rfl, rfl⟩⟩
  case round =>
    obtain ⟨rfl, ⟨rfl, rfl, rfl⟩ | ⟨rfl, rfl, rfl⟩ | ⟨rfl, rfl, rfl⟩⟩ := hrel
    · go_wp2_with fail
      any_goals (first | (exfalso; omega) | skip)
      go_roundg 1
      case rel => exact ⟨rfl, .inr (.inl ⟨rfl, rfl, rfl⟩)⟩
      case measure => omega
    · go_wp2_with fail
      any_goals (first | (exfalso; omega) | skip)
      go_roundg 0
      case rel => exact ⟨rfl, .inr (.inr ⟨rfl, by congr 1, rfl⟩)⟩
      case measure => omega
    · go_wp2_with fail
      refine HG.out.mono ?_
      rintro e w1 ⟨v, rfl, hr, ho, hbl⟩
      have HR := Go.Lib.hid hr
      have HO := Go.Lib.hid ho
      have HBL := Go.Lib.hid hbl
      clear hr ho hbl c0 c1
      go_wp2_with fail
      go_loopg [6, 27] 2 (fun g v i wt => ∃ K : List Int, KL wt v K ∧ (∀ b, v.ownBlock = some b → wr.heap.size ≤ b) ∧ Below wr.heap.size wr wt ∧ ((g = 2 ∧ K = [] ∧ i = .int .i64 0) ∨ (g = 1 ∧ K = L1 ∧ i = .int .i64 1) ∨ (g = 0 ∧ K = L1 ++ L2 ∧ i = .int .i64 2)))
      case atStart => exact ⟨[], HR.out, HO.out, HBL.out, .inl ⟨rfl, rfl, rfl⟩⟩
      case round =>
        obtain ⟨K, hk, ho2, hbt, hcase⟩ := hrel
        have lbt : B < wr.heap.size := Nat.lt_of_lt_of_le lb hbt.size
        have c0 := (HB.out.keep hbt).cell 0
        have c1 := (HB.out.keep hbt).cell 1
        simp only [List.getElem?_cons_zero, List.getElem?_cons_succ] at c0 c1
        have hl := HL.out
        rcases hcase with ⟨rfl, rfl, rfl⟩ | ⟨rfl, hKL, rfl⟩ | ⟨rfl, rfl, rfl⟩
        · have HK := Go.Lib.hid hk
          have HX := Go.Lib.hid (H1.out.keep hbt)
          have HO2 := Go.Lib.hid ho2
          have HBT := Go.Lib.hid hbt
          clear hk ho2 hbt
          go_wp2_with (at_builtin; refine wpList_append_two _ rfl (.tmp 31) (.tmp 32) 26 rfl 31 (.int .u64 0) 1 8 Try.underlying26 u64_info rfl (by decide) u6 ([] : List Int).length (([] : List Int).map (Value.int .u64)) rfl HK.out (.slice a1 L1.length p1) L1.length (L1.map (Value.int .u64)) rfl HX.out (keys_one _) ?b1 ?b2 ?next)
          case b1 => simp only [List.length_nil]; unfold maxLen; omega
          case b2 => simp only [List.length_nil]; omega
          case next =>
            intro v' w' r1 r2 r3
            have K2 : KL w' v' (L1) := by
              unfold KL
              simpa using r1
            have HK2 := Go.Lib.hid K2
            have hsz := HBT.out.size
            have HO3 := Go.Lib.hid (fun b hb => (r3 b hb).elim (HO2.out b) (fun h => Nat.le_trans hsz h) : ∀ b, v'.ownBlock = some b → _ ≤ b)
            have HB3 := Go.Lib.hid (below_fr HBT.out r2 (Nat.le_refl _) HO2.out)
            clear K2 r1 r2 r3
            go_wp2_with fail
            go_roundg 1
            case rel => exact ⟨L1, HK2.out, HO3.out, HB3.out, .inr (.inl ⟨rfl, rfl, rfl⟩)⟩
            case measure => omega
        · have hKL := hKL.symm
          subst hKL
          have HK := Go.Lib.hid hk
          have HX := Go.Lib.hid (H2.out.keep hbt)
          have HO2 := Go.Lib.hid ho2
          have HBT := Go.Lib.hid hbt
          clear hk ho2 hbt
          go_wp2_with (at_builtin; refine wpList_append_two _ rfl (.tmp 31) (.tmp 32) 26 rfl 31 (.int .u64 0) 1 8 Try.underlying26 u64_info rfl (by decide) u6 (L1 : List Int).length ((L1 : List Int).map (Value.int .u64)) rfl HK.out (.slice a2 L2.length p2) L2.length (L2.map (Value.int .u64)) rfl HX.out (keys_one _) ?b1 ?b2 ?next)
          case b1 => unfold maxLen; omega
          case b2 => omega
          case next =>
            intro v' w' r1 r2 r3
            have K2 : KL w' v' (L1 ++ L2) := by
              unfold KL
              rw [List.map_append, List.length_append]; exact r1
            have HK2 := Go.Lib.hid K2
            have hsz := HBT.out.size
            have HO3 := Go.Lib.hid (fun b hb => (r3 b hb).elim (HO2.out b) (fun h => Nat.le_trans hsz h) : ∀ b, v'.ownBlock = some b → _ ≤ b)
            have HB3 := Go.Lib.hid (below_fr HBT.out r2 (Nat.le_refl _) HO2.out)
            clear K2 r1 r2 r3
            go_wp2_with fail
            go_roundg 0
            case rel => exact ⟨L1 ++ L2, HK2.out, HO3.out, HB3.out, .inr (.inr ⟨rfl, rfl, rfl⟩)⟩
            case measure => omega
        · go_wp2_with fail
          go_ret
          exact ⟨_, rfl, hk, hbt⟩
end Go.Proofs.Ytlakojncjldpbaa
