/- The arena grows. -/
import Derived.Test.YtlakojncjldpbaaGIs
import Derived.Test.YtlakojncjldpbaaGTab
namespace Go.Proofs.Ytlakojncjldpbaa
open Go.RowKit Hop
set_option linter.unusedVariables false
set_option linter.unusedSimpArgs false
set_option maxRecDepth 100000
theorem slot_info : (Try.prog.info? 201).map (fun i => (i.zero, i.size, i.bytes)) = some (some (.agg (encS Sl.z).toArray), 7, 48) := by kernel_rfl
theorem slot_size : (Try.prog.info? 201).map (·.size) = some 7 := by kernel_rfl
theorem one_flat {α : Type} {enc : α → List Value} (h : ∀ x, ∀ v ∈ enc x, v.oneCell' = true) (l : List α) : ∀ v ∈ flat enc l, v.oneCell' = true := by
  intro v hv
  unfold flat at hv
  obtain ⟨x, _, hx⟩ := List.mem_flatMap.1 hv
  exact h x v hx
theorem encS_one (x : Sl) : ∀ v ∈ encS x, v.oneCell' = true := by intro v hv; simp [encS] at hv; rcases hv with rfl | rfl | rfl | rfl | rfl | rfl | rfl <;> rfl
set_option maxHeartbeats 800000 in
theorem agrow_any (pa ba : Nat) (S : List Sl) (f nx li : Value) (w : World) (hn : S.length < 1000000)
    (ha : Blk w pa [S0 ba S.length, f, nx, li] 189) (hb : Blk w ba (flat encS S) 201) :
    Calls Try.prog 236 #[P0 pa] w fun e w' => e = .returned (.tuple #[]) ∧ ∃ ba', w.heap.size ≤ ba' ∧ Fr (· = pa) w w' ∧ Blk w' pa [S0 ba' (2 * S.length), f, nx, li] 189 ∧ Blk w' ba' (flat encS (S ++ List.replicate S.length Sl.z)) 201 := by
  have c0 := ha.cell 0
  have f0 := ha.frozen 0
  simp only [List.getElem?_cons_zero] at c0
  have l0 := ha.lt
  have l1 := hb.lt
  have hlen := flat_length encS_len S
  have hone := one_flat encS_one S
  have HL := Go.Lib.hid hlen
  have HO := Go.Lib.hid hone
  clear hlen hone
  go_enter Try.func236, Try.ntmps236
  go_wp2_with (first | (refine wpList_make_rows _ encS Sl.z 7 encS_len (by omega) rfl (.tmp 8) 187 rfl 201 48 Try.underlying187 slot_info (2 * S.length) (2 * S.length) rfl (by omega) (by omega) (by unfold maxLen; omega) ?_) | (with_reducible refine wpList_copy_rows rfl (.tmp 10) (.tmp 14) 187 187 rfl 201 Try.underlying187 7 slot_size w.heap.size ba (2 * S.length) (2 * S.length) S.length S.length rfl rfl (flat encS (List.replicate (2 * S.length) Sl.z)) (flat encS S) 201 201 (Blk.new0 _ _ _) (hb.alloc _) (by omega) HL.out ?c1 HO.out ?_))
  case c1 => rw [flat_length encS_len, flat_length encS_len, List.length_replicate]; omega
  intro w1 hf1 hb1
  have a1 : Blk w1 pa [S0 ba S.length, f, nx, li] 189 := hf1.blk (by show ¬ pa = w.heap.size; omega) (ha.alloc _)
  have g1 := a1.frozen 0
  have c1 := a1.cell 0
  have F1 : Fr (· = pa) w w1 := ((Fr.refl _ w).alloc _).trans hf1 (fun k hk => .inr (by omega))
  have e1 : flat encS S ++ (flat encS (List.replicate (2 * S.length) Sl.z)).drop (flat encS S).length = flat encS (S ++ List.replicate S.length Sl.z) := by
    have h2 : List.replicate (2 * S.length) Sl.z = List.replicate S.length Sl.z ++ List.replicate S.length Sl.z := by rw [List.replicate_append_replicate]; congr 1; omega
    rw [h2]
    have h3 : flat encS (List.replicate S.length Sl.z ++ List.replicate S.length Sl.z) = flat encS (List.replicate S.length Sl.z) ++ flat encS (List.replicate S.length Sl.z) := by unfold flat; rw [List.flatMap_append]
    have h4 : flat encS (S ++ List.replicate S.length Sl.z) = flat encS S ++ flat encS (List.replicate S.length Sl.z) := by unfold flat; rw [List.flatMap_append]
    rw [h3, h4]
    congr 1
    have h5 : (flat encS S).length = (flat encS (List.replicate S.length Sl.z)).length := by rw [flat_length encS_len, flat_length encS_len, List.length_replicate]
    rw [h5, List.drop_left]
  rw [e1] at hb1
  simp only [List.getElem?_cons_zero] at c1
  have l2 := a1.lt
  have hne : w.heap.size ≠ pa := by omega
  have HF := Go.Lib.hid hf1
  have HB1 := Go.Lib.hid hb1
  clear hf1 hb1 e1 c0 f0
  go_wp2_with fail
  go_end0
  refine ⟨rfl, w.heap.size, Nat.le_refl _, F1.setEq rfl _, a1.set 0 _, HB1.out.set_ne hne _⟩
end Go.Proofs.Ytlakojncjldpbaa

namespace Go.Proofs.Ytlakojncjldpbaa
open Go.RowKit Hop
set_option linter.unusedVariables false
set_option linter.unusedSimpArgs false
set_option maxRecDepth 100000
theorem slot_write7 {w : World} {ba : Nat} {S : List Sl} (hb : Blk w ba (flat encS S) 201) {n : Nat} (hn : n < S.length) (x : Nd) (tk : Bool) :
    Blk (((((((w.setCell ⟨ba, n * 7, none⟩ (.int .u64 x.key)).setCell ⟨ba, n * 7 + 1, none⟩ (.int .u64 x.val)).setCell ⟨ba, n * 7 + 2, none⟩ (.int .i64 x.flag)).setCell ⟨ba, n * 7 + 3, none⟩ (.int .i64 x.tag)).setCell
      ⟨ba, n * 7 + 4, none⟩ (.int .i32 x.prev)).setCell ⟨ba, n * 7 + 5, none⟩ (.int .i32 x.next)).setCell ⟨ba, n * 7 + 6, none⟩ (.bool tk)) ba (flat encS (st S n ⟨x, tk⟩)) 201 := by
  have h := ((((((hb.set (n * 7) (.int .u64 x.key)).set (n * 7 + 1) (.int .u64 x.val)).set (n * 7 + 2) (.int .i64 x.flag)).set (n * 7 + 3) (.int .i64 x.tag)).set (n * 7 + 4) (.int .i32 x.prev)).set (n * 7 + 5) (.int .i32 x.next)).set (n * 7 + 6) (.bool tk)
  have q0 := flat_set encS_len S n 0 hn (.int .u64 x.key) ⟨⟨x.key, S[n].nd.val, S[n].nd.flag, S[n].nd.tag, S[n].nd.prev, S[n].nd.next⟩, S[n].taken⟩ (by omega) (by simp [encS])
  have q1 := flat_set encS_len (S.set n ⟨⟨x.key, S[n].nd.val, S[n].nd.flag, S[n].nd.tag, S[n].nd.prev, S[n].nd.next⟩, S[n].taken⟩) n 1 (by simpa using hn) (.int .u64 x.val) ⟨⟨x.key, x.val, S[n].nd.flag, S[n].nd.tag, S[n].nd.prev, S[n].nd.next⟩, S[n].taken⟩ (by omega) (by simp [encS])
  have q2 := flat_set encS_len (S.set n ⟨⟨x.key, x.val, S[n].nd.flag, S[n].nd.tag, S[n].nd.prev, S[n].nd.next⟩, S[n].taken⟩) n 2 (by simpa using hn) (.int .i64 x.flag) ⟨⟨x.key, x.val, x.flag, S[n].nd.tag, S[n].nd.prev, S[n].nd.next⟩, S[n].taken⟩ (by omega) (by simp [encS])
  have q3 := flat_set encS_len (S.set n ⟨⟨x.key, x.val, x.flag, S[n].nd.tag, S[n].nd.prev, S[n].nd.next⟩, S[n].taken⟩) n 3 (by simpa using hn) (.int .i64 x.tag) ⟨⟨x.key, x.val, x.flag, x.tag, S[n].nd.prev, S[n].nd.next⟩, S[n].taken⟩ (by omega) (by simp [encS])
  have q4 := flat_set encS_len (S.set n ⟨⟨x.key, x.val, x.flag, x.tag, S[n].nd.prev, S[n].nd.next⟩, S[n].taken⟩) n 4 (by simpa using hn) (.int .i32 x.prev) ⟨⟨x.key, x.val, x.flag, x.tag, x.prev, S[n].nd.next⟩, S[n].taken⟩ (by omega) (by simp [encS])
  have q5 := flat_set encS_len (S.set n ⟨⟨x.key, x.val, x.flag, x.tag, x.prev, S[n].nd.next⟩, S[n].taken⟩) n 5 (by simpa using hn) (.int .i32 x.next) ⟨x, S[n].taken⟩ (by omega) (by simp [encS])
  have q6 := flat_set encS_len (S.set n ⟨x, S[n].taken⟩) n 6 (by simpa using hn) (.bool tk) ⟨x, tk⟩ (by omega) (by simp [encS])
  simp only [List.set_set] at q1 q2 q3 q4 q5 q6
  simp only [Nat.add_zero] at q0
  rw [q0, q1, q2, q3, q4, q5, q6] at h
  simpa [st] using h
section
variable (pa ba : Nat) (S : List Sl) (fv : Value) (nx lv : Int)
set_option maxHeartbeats 1600000 in
/-- None was freed, and there is room. -/
theorem alloc_room (w : World) (hn : S.length < 1000000) (h0 : 0 < nx) (h1 : nx < S.length) (hlv : 0 ≤ lv ∧ lv < 1000000) (hf : ∃ a c, fv = .slice a 0 c)
    (ha : Blk w pa [S0 ba S.length, fv, .int .i64 nx, .int .i64 lv] 189) (hb : Blk w ba (flat encS S) 201) :
    Calls Try.prog 216 #[P0 pa] w fun e w' => e = .returned (.int .i32 nx) ∧ Fr (fun k => k = pa ∨ k = ba) w w' ∧
      Blk w' pa [S0 ba S.length, fv, .int .i64 (nx + 1), .int .i64 (lv + 1)] 189 ∧ Blk w' ba (flat encS (st S nx ⟨Nd.z, true⟩)) 201 := by
  obtain ⟨fa, fc, rfl⟩ := hf
  obtain ⟨n, rfl⟩ := Int.eq_ofNat_of_zero_le (Int.le_of_lt h0)
  have h0' : 0 < n := by omega
  have h1' : n < S.length := by omega
  have c0 := ha.cell 0
  have c1 := ha.cell 1
  have c2 := ha.cell 2
  have c3 := ha.cell 3
  have f2 := ha.frozen 2
  have f3 := ha.frozen 3
  have d0 := slot_cell hb h1' (j := 0) (by omega)
  have d1 := slot_cell hb h1' (j := 1) (by omega)
  have d2 := slot_cell hb h1' (j := 2) (by omega)
  have d3 := slot_cell hb h1' (j := 3) (by omega)
  have d4 := slot_cell hb h1' (j := 4) (by omega)
  have d5 := slot_cell hb h1' (j := 5) (by omega)
  have d6 := slot_cell hb h1' (j := 6) (by omega)
  have k0 := hb.frozen (n * 7)
  have k1 := hb.frozen (n * 7 + 1)
  have k2 := hb.frozen (n * 7 + 2)
  have k3 := hb.frozen (n * 7 + 3)
  have k4 := hb.frozen (n * 7 + 4)
  have k5 := hb.frozen (n * 7 + 5)
  have k6 := hb.frozen (n * 7 + 6)
  simp only [encS, List.getElem?_cons_zero, List.getElem?_cons_succ, Nat.add_zero] at c0 c1 c2 c3 d0 d1 d2 d3 d4 d5 d6
  have hne := ha.ne hb (by decide)
  have hne' := hne.symm
  have b1 : (n == S.length) = false := by simp; omega
  have b2 : ((n : Int) == (S.length : Int)) = false := by rw [beq_eq_false_iff_ne]; omega
  obtain ⟨hl0, hl1⟩ := hlv
  go_enter Try.func216, Try.ntmps216
  go_wp2_with fail
  go_quiet (fail)
  go_wp2_with fail
  go_ret
  have a1 : Blk (w.drewN nq) pa _ 189 := ha.of_heap rfl
  have b1 : Blk (w.drewN nq) ba _ 201 := hb.of_heap rfl
  refine ⟨rfl, ?_, ?_, ?_⟩
  · have F0 : Fr (fun k => k = pa ∨ k = ba) w (w.drewN nq) := ⟨rfl, rfl, rfl, Nat.le_refl _, fun _ _ _ => rfl⟩
    repeat (with_reducible first | exact F0 | refine Fr.setEq ?_ ?_ _)
    all_goals first | exact .inl rfl | exact .inr rfl
  · exact ((((((((((a1.set 2 (.int .i64 (n + 1))).set_ne hne _).set_ne hne _).set_ne hne _).set_ne hne _).set_ne hne _).set_ne hne _).set_ne hne _)).set 3 (.int .i64 (lv + 1)))
  · exact (slot_write7 (b1.set_ne (a := ⟨pa, 2, none⟩) hne' _) h1' Nd.z true).set_ne hne' _
set_option maxHeartbeats 1600000 in
/-- One was freed. -/
theorem alloc_freed (g m cap : Nat) (cs : List Value) (i : Int) (w : World) (hn : S.length < 1000000) (h0 : 0 < i) (h1 : i < S.length) (hlv : 0 ≤ lv ∧ lv < 1000000) (hm : m < cap) (hcap : cap ≤ 9223372036854775807) (hnx : 0 ≤ nx ∧ nx < 1000000)
    (hg : Blk w g cs 21) (hc : cs[m]? = some (.int .i32 i))
    (ha : Blk w pa [S0 ba S.length, .slice (some ⟨g, 0, none⟩) (m + 1) cap, .int .i64 nx, .int .i64 lv] 189) (hb : Blk w ba (flat encS S) 201) :
    Calls Try.prog 216 #[P0 pa] w fun e w' => e = .returned (.int .i32 i) ∧ Fr (fun k => k = pa ∨ k = ba) w w' ∧
      Blk w' pa [S0 ba S.length, .slice (some ⟨g, 0, none⟩) m m, .int .i64 nx, .int .i64 (lv + 1)] 189 ∧ Blk w' ba (flat encS (st S i ⟨Nd.z, true⟩)) 201 := by
  obtain ⟨n, rfl⟩ := Int.eq_ofNat_of_zero_le (Int.le_of_lt h0)
  have h0' : 0 < n := by omega
  have h1' : n < S.length := by omega
  have c0 := ha.cell 0
  have c1 := ha.cell 1
  have c2 := ha.cell 2
  have c3 := ha.cell 3
  have f2 := ha.frozen 2
  have f3 := ha.frozen 3
  have d0 := slot_cell hb h1' (j := 0) (by omega)
  have d1 := slot_cell hb h1' (j := 1) (by omega)
  have d2 := slot_cell hb h1' (j := 2) (by omega)
  have d3 := slot_cell hb h1' (j := 3) (by omega)
  have d4 := slot_cell hb h1' (j := 4) (by omega)
  have d5 := slot_cell hb h1' (j := 5) (by omega)
  have d6 := slot_cell hb h1' (j := 6) (by omega)
  have k0 := hb.frozen (n * 7)
  have k1 := hb.frozen (n * 7 + 1)
  have k2 := hb.frozen (n * 7 + 2)
  have k3 := hb.frozen (n * 7 + 3)
  have k4 := hb.frozen (n * 7 + 4)
  have k5 := hb.frozen (n * 7 + 5)
  have k6 := hb.frozen (n * 7 + 6)
  simp only [encS, List.getElem?_cons_zero, List.getElem?_cons_succ, Nat.add_zero] at c0 c1 c2 c3 d0 d1 d2 d3 d4 d5 d6
  have hne := ha.ne hb (by decide)
  have hne' := hne.symm
  have f1 := ha.frozen 1
  have cg := hg.cell m
  rw [hc] at cg
  have gp := hg.ne ha (by decide)
  have gb := hg.ne hb (by decide)
  obtain ⟨hl0, hl1⟩ := hlv
  obtain ⟨hx0, hx1⟩ := hnx
  have HC := Go.Lib.hid hc
  clear hc
  go_enter Try.func216, Try.ntmps216
  go_wp2_with fail
  go_ret
  refine ⟨rfl, ?_, ?_, ?_⟩
  · repeat (with_reducible first | exact Fr.refl _ _ | refine Fr.setEq ?_ ?_ _)
    all_goals first | exact .inl rfl | exact .inr rfl
  · exact ((((((((((ha.set 1 (.slice (some ⟨g, 0, none⟩) m m)).set_ne hne _).set_ne hne _).set_ne hne _).set_ne hne _).set_ne hne _).set_ne hne _).set_ne hne _)).set 3 (.int .i64 (lv + 1)))
  · exact (slot_write7 (hb.set_ne (a := ⟨pa, 1, none⟩) hne' _) h1' Nd.z true).set_ne hne' _
set_option maxHeartbeats 1600000 in
/-- None was freed, and there is no room. -/
theorem alloc_grow (w : World) (hn : S.length < 500000) (h0 : 0 < S.length) (hlv : 0 ≤ lv ∧ lv < 1000000) (hf : ∃ a c, fv = .slice a 0 c)
    (ha : Blk w pa [S0 ba S.length, fv, .int .i64 S.length, .int .i64 lv] 189) (hb : Blk w ba (flat encS S) 201) :
    Calls Try.prog 216 #[P0 pa] w fun e w' => e = .returned (.int .i32 S.length) ∧ ∃ ba', w.heap.size ≤ ba' ∧ Fr (fun k => k = pa ∨ k = ba) w w' ∧
      Blk w' pa [S0 ba' (2 * S.length), fv, .int .i64 (S.length + 1), .int .i64 (lv + 1)] 189 ∧ Blk w' ba' (flat encS (st (S ++ List.replicate S.length Sl.z) S.length ⟨Nd.z, true⟩)) 201 := by
  obtain ⟨fa, fc, rfl⟩ := hf
  have z0 := ha.cell 0
  have z1 := ha.cell 1
  have z2 := ha.cell 2
  simp only [List.getElem?_cons_zero, List.getElem?_cons_succ] at z0 z1 z2
  obtain ⟨hl0, hl1⟩ := hlv
  have hlp := ha.lt
  have h1' : S.length < (S ++ List.replicate S.length Sl.z).length := by simp; omega
  have e2 : 2 * S.length = (S ++ List.replicate S.length Sl.z).length := by simp; omega
  have GR := fun w => agrow_any pa ba S (.slice fa 0 fc) (.int .i64 S.length) (.int .i64 lv) w (by omega)
  rw [e2] at GR ⊢
  have hn2 : (S ++ List.replicate S.length Sl.z).length < 1000000 := by omega
  clear e2
  generalize S ++ List.replicate S.length Sl.z = S2 at *
  generalize flat encS S = FS at *
  generalize S.length = n at *
  have HGR := Go.Lib.hid GR
  clear GR
  go_enter Try.func216, Try.ntmps216
  go_wp2_with fail
  go_quiet (fail)
  go_wp2_with fail
  have a1 : Blk (w.drewN nq) pa _ 189 := ha.of_heap rfl
  have b1 : Blk (w.drewN nq) ba _ 201 := hb.of_heap rfl
  refine (HGR.out _ a1 b1).mono ?_
  rintro e w1 ⟨rfl, ba1, hge, hf1, ha1, hb1⟩
  have F1 : Fr (fun k => k = pa ∨ k = ba) w w1 := Fr.trans (b := w.drewN nq) (own' := fun k => k = pa) ⟨rfl, rfl, rfl, Nat.le_refl _, fun _ _ _ => rfl⟩ hf1 (fun k hk => .inl (.inl hk))
  have hge' : w.heap.size ≤ ba1 := hge
  have HF := Go.Lib.hid F1
  clear hf1 ha hb a1 b1 hge F1 z0 z1 z2
  have c0 := ha1.cell 0
  have c2 := ha1.cell 2
  have c3 := ha1.cell 3
  have f2 := ha1.frozen 2
  have f3 := ha1.frozen 3
  have d0 := slot_cell hb1 h1' (j := 0) (by omega)
  have d1 := slot_cell hb1 h1' (j := 1) (by omega)
  have d2 := slot_cell hb1 h1' (j := 2) (by omega)
  have d3 := slot_cell hb1 h1' (j := 3) (by omega)
  have d4 := slot_cell hb1 h1' (j := 4) (by omega)
  have d5 := slot_cell hb1 h1' (j := 5) (by omega)
  have d6 := slot_cell hb1 h1' (j := 6) (by omega)
  have k0 := hb1.frozen (n * 7)
  have k1 := hb1.frozen (n * 7 + 1)
  have k2 := hb1.frozen (n * 7 + 2)
  have k3 := hb1.frozen (n * 7 + 3)
  have k4 := hb1.frozen (n * 7 + 4)
  have k5 := hb1.frozen (n * 7 + 5)
  have k6 := hb1.frozen (n * 7 + 6)
  simp only [encS, List.getElem?_cons_zero, List.getElem?_cons_succ, Nat.add_zero] at c0 c2 c3 d0 d1 d2 d3 d4 d5 d6
  have hne : pa ≠ ba1 := ha1.ne hb1 (by decide)
  have hne' := hne.symm
  go_wp2_with fail
  go_ret
  refine ⟨rfl, ba1, hge', ?_, ?_, ?_⟩
  · repeat (with_reducible first | exact HF.out | refine Fr.setEq ?_ (.inl rfl) _ | refine Fr.setNew ?_ hge' _)
  · exact ((((((((((ha1.set 2 (.int .i64 (n + 1))).set_ne hne _).set_ne hne _).set_ne hne _).set_ne hne _).set_ne hne _).set_ne hne _).set_ne hne _)).set 3 (.int .i64 (lv + 1)))
  · exact (slot_write7 (hb1.set_ne (a := ⟨pa, 2, none⟩) hne' _) h1' Nd.z true).set_ne hne' _
end
end Go.Proofs.Ytlakojncjldpbaa

namespace Go.Proofs.Ytlakojncjldpbaa
open Go.RowKit Hop
set_option linter.unusedVariables false
set_option linter.unusedSimpArgs false
set_option maxRecDepth 100000
theorem i32_info : (Try.prog.info? 21).map (fun i => (i.zero, i.size, i.bytes)) = some (some (.int .i32 0), 1, 4) := by kernel_rfl
section
variable (pa ba : Nat) (S : List Sl) (nx lv : Int)
set_option maxHeartbeats 1600000 in
theorem free_yes (fv : Value) (fs : List Int) (i : Int) (w : World) (hn : S.length < 1000000) (hi : isT S i = true) (hlv : 0 < lv ∧ lv < 1000000) (hf : Frv w fv fs) (hfl : fs.length < 1000000)
    (ha : Blk w pa [S0 ba S.length, fv, .int .i64 nx, .int .i64 lv] 189) (hb : Blk w ba (flat encS S) 201) :
    Calls Try.prog 177 #[P0 pa, .int .i32 i] w fun e w' => e = .returned (.bool true) ∧ Fr (fun k => k = pa ∨ k = ba ∨ fv.ownBlock = some k) w w' ∧ ∃ fv',
      Blk w' pa [S0 ba S.length, fv', .int .i64 nx, .int .i64 (lv - 1)] 189 ∧ Blk w' ba (flat encS (st S i Sl.z)) 201 ∧ Frv w' fv' (fs ++ [i]) ∧ (∀ k, fv'.ownBlock = some k → fv.ownBlock = some k ∨ w.heap.size ≤ k) := by
  obtain ⟨h0, h1, h2⟩ := isT_lt hi
  obtain ⟨n, rfl⟩ := Int.eq_ofNat_of_zero_le (Int.le_of_lt h0)
  have h0' : 0 < n := by omega
  have h1' : n < S.length := by omega
  have c0 := ha.cell 0
  have c1 := ha.cell 1
  have d0 := slot_cell hb h1' (j := 0) (by omega)
  have d1 := slot_cell hb h1' (j := 1) (by omega)
  have d2 := slot_cell hb h1' (j := 2) (by omega)
  have d3 := slot_cell hb h1' (j := 3) (by omega)
  have d4 := slot_cell hb h1' (j := 4) (by omega)
  have d5 := slot_cell hb h1' (j := 5) (by omega)
  have d6 := slot_cell hb h1' (j := 6) (by omega)
  have k0 := hb.frozen (n * 7)
  have k1 := hb.frozen (n * 7 + 1)
  have k2 := hb.frozen (n * 7 + 2)
  have k3 := hb.frozen (n * 7 + 3)
  have k4 := hb.frozen (n * 7 + 4)
  have k5 := hb.frozen (n * 7 + 5)
  have k6 := hb.frozen (n * 7 + 6)
  simp only [encS, List.getElem?_cons_zero, List.getElem?_cons_succ, Nat.add_zero] at c0 c1 d0 d1 d2 d3 d4 d5 d6
  have hne := ha.ne hb (by decide)
  have hne' := hne.symm
  have lp := ha.lt
  have lb := hb.lt
  obtain ⟨hl0, hl1⟩ := hlv
  have HT := Go.Lib.hid hi
  have ofv : ∀ k, fv.ownBlock = some k → k < w.heap.size ∧ k ≠ pa ∧ k ≠ ba := by
    intro k hk
    obtain ⟨q1, cs, q2⟩ := hf.lt hk
    exact ⟨q1, q2.ne ha (by decide), q2.ne hb (by decide)⟩
  have HOF := Go.Lib.hid ofv
  obtain ⟨W1, hW1⟩ : ∃ W1, W1 = ((((((((w.setCell ⟨ba, n * 7, none⟩ (.int .u64 0)).setCell ⟨ba, n * 7 + 1, none⟩ (.int .u64 0)).setCell ⟨ba, n * 7 + 2, none⟩ (.int .i64 0)).setCell ⟨ba, n * 7 + 3, none⟩ (.int .i64 0)).setCell
      ⟨ba, n * 7 + 4, none⟩ (.int .i32 0)).setCell ⟨ba, n * 7 + 5, none⟩ (.int .i32 0)).setCell ⟨ba, n * 7 + 6, none⟩ (.bool false)).alloc (.cells #[.int .i32 n] 21)) := ⟨_, rfl⟩
  have F0 : Fr (fun k => k = ba) w W1 := by
    rw [hW1]
    repeat (with_reducible first | exact Fr.refl _ _ | refine Fr.alloc ?_ _ | refine Fr.setEq ?_ ?_ _)
    all_goals rfl
  have B1 : Blk W1 ba (flat encS (st S n Sl.z)) 201 := by
    rw [hW1]
    exact (slot_write7 hb h1' Nd.z false).alloc _
  have A1 : Blk W1 pa _ 189 := F0.blk hne ha
  have R1 : Row W1 21 1 fv fs.length (fs.map (Value.int .i32)) := Row.frame hf F0 (fun k hk => (ofv k hk).2.2)
  have Q1 : Blk W1 w.heap.size [Value.int .i32 n] 21 := by
    rw [hW1]
    have q := Blk.new0 (((((((w.setCell ⟨ba, n * 7, none⟩ (.int .u64 0)).setCell ⟨ba, n * 7 + 1, none⟩ (.int .u64 0)).setCell ⟨ba, n * 7 + 2, none⟩ (.int .i64 0)).setCell ⟨ba, n * 7 + 3, none⟩ (.int .i64 0)).setCell
      ⟨ba, n * 7 + 4, none⟩ (.int .i32 0)).setCell ⟨ba, n * 7 + 5, none⟩ (.int .i32 0)).setCell ⟨ba, n * 7 + 6, none⟩ (.bool false)) [Value.int .i32 n] 21
    simpa only [World.size_setCell] using q
  have F1 : Fr (fun k => k = pa ∨ k = ba ∨ fv.ownBlock = some k) w W1 := F0.mono (fun k hk => .inr (.inl hk))
  have HR1 := Go.Lib.hid R1
  have HB1 := Go.Lib.hid B1
  have HA1 := Go.Lib.hid A1
  have HF1 := Go.Lib.hid F1
  have HQ1 := Go.Lib.hid Q1
  have HW1 := Go.Lib.hid hW1
  clear hi h2 ofv R1 F1 A1 B1 F0 Q1 hW1
  go_enter Try.func177, Try.ntmps177
  go_wp2_with fail
  refine (is_any pa ba S _ _ _ n _ (by omega) hn ha hb).mono ?_
  rw [HT.out]
  rintro e w' ⟨rfl, rfl⟩
  go_wp2_with (at_builtin; rw [← HW1.out]; refine wpList_append_row _ rfl (.tmp 20) (.tmp 22) 161 rfl 21 (.int .i32 0) 1 4 Try.underlying161 i32_info rfl (by decide) fv fs.length (fs.map (Value.int .i32)) rfl HR1.out ⟨w.heap.size, 0, none⟩ 1 1 [.int .i32 n] rfl (by decide) rfl ?c1 ?c2 ?b1 ?b2 ?next)
  case c1 => intro j u hj; match j, hj with | 0, hj => simp at hj; subst hj; simpa [Addr.add] using HQ1.out.cell 0
  case c2 => intro u hu; simp at hu; subst hu; rfl
  case b1 => unfold maxLen; omega
  case b2 => omega
  case next =>
    intro g' cap' w1 hr hf1 hg
    have a1 : Blk w1 pa _ 189 := hf1.blk (fun hk => (HOF.out pa hk).2.1 rfl) HA1.out
    have b1 : Blk w1 ba _ 201 := hf1.blk (fun hk => (HOF.out ba hk).2.2 rfl) HB1.out
    have F2 : Fr (fun k => k = pa ∨ k = ba ∨ fv.ownBlock = some k) w w1 := HF1.out.trans hf1 (fun k hk => .inl (.inr (.inr hk)))
    have c3 := a1.cell 3
    have c1' := a1.cell 1
    have f1 := a1.frozen 1
    have f3 := a1.frozen 3
    simp only [List.getElem?_cons_zero, List.getElem?_cons_succ] at c3 c1'
    have hgp : g' ≠ pa := by
      rcases hg with hg | hg
      · exact (HOF.out g' hg).2.1
      · intro e; subst e
        have := Nat.le_trans HF1.out.size hg
        omega
    have F3 := (F2.setEq (b := pa) (o := 1) (.inl rfl) (.slice (some ⟨g', 0, none⟩) (fs.length + 1) cap')).setEq (b := pa) (o := 3) (.inl rfl) (.int .i64 (lv - 1))
    have A3 := (a1.set 1 (.slice (some ⟨g', 0, none⟩) (fs.length + 1) cap')).set 3 (.int .i64 (lv - 1))
    have B3 := (b1.set_ne (a := ⟨pa, 1, none⟩) hne' (.slice (some ⟨g', 0, none⟩) (fs.length + 1) cap')).set_ne (a := ⟨pa, 3, none⟩) hne' (.int .i64 (lv - 1))
    have R3 := hr.frame (own := fun k => k = pa) (((Fr.refl (fun k => k = pa) w1).setEq (b := pa) (o := 1) rfl (.slice (some ⟨g', 0, none⟩) (fs.length + 1) cap')).setEq (b := pa) (o := 3) rfl (.int .i64 (lv - 1))) (fun k hk => by
      have e : g' = k := by simpa [Value.ownBlock] using hk
      subst e; exact hgp)
    have HG := Go.Lib.hid hg
    have HR := Go.Lib.hid R3
    have HFF := Go.Lib.hid F3
    clear hf1 hr F2 hg R3 F3
    go_wp2_with fail
    go_ret
    refine ⟨rfl, HFF.out, _, A3, B3, ?_, ?_⟩
    · have e1 : (fs ++ [(n : Int)]).length = fs.length + 1 := by simp
      have e2 : (fs ++ [(n : Int)]).map (Value.int .i32) = fs.map (Value.int .i32) ++ [.int .i32 n] := by simp
      unfold Frv
      rw [e1, e2]
      exact HR.out
    · intro k hk
      have e : g' = k := by simpa [Value.ownBlock] using hk
      subst e
      rcases HG.out with q | q
      · exact .inl q
      · exact .inr (Nat.le_trans HF1.out.size q)
end
end Go.Proofs.Ytlakojncjldpbaa

namespace Go.Proofs.Ytlakojncjldpbaa
open Go.RowKit Hop
set_option linter.unusedVariables false
set_option linter.unusedSimpArgs false
set_option maxRecDepth 100000
/-- A key, mixed. -/
def mixF (k : Int) : Int := bits .xor .u64 (IntKind.u64.wrap (k * 11400714819323198485)) (IntKind.u64.wrap (k * 11400714819323198485) / 4294967296)
/-- A key's home in so many slots. -/
def hmF (k n : Int) : Int := mixF k % n
theorem mixF_lo (k : Int) : 0 ≤ mixF k ∧ mixF k < 18446744073709551616 := by
  unfold mixF bits
  rw [IntKind.wrap_u64]
  omega
theorem pow_pos' (j : Nat) : (0 : Int) < 2 ^ j := Int.pow_pos (by omega)
theorem pow_lt (j : Nat) (hj : j < 31) : (2 : Int) ^ j ≤ 1073741824 := by
  have h : (2 : Int) ^ j ≤ 2 ^ 30 := by exact_mod_cast Nat.pow_le_pow_right (by omega) (by omega : j ≤ 30)
  exact h
theorem pow_cast (j : Nat) : ((2 : Int) ^ j - 1) = ((2 ^ j - 1 : Nat) : Int) := by
  rw [Int.natCast_sub (Nat.two_pow_pos j)]; simp
theorem mask_key (x : Int) (j : Nat) (hj : j < 31) : (BitVec.ofInt 64 x &&& BitVec.ofInt 64 ((2 : Int) ^ j - 1)).toNat = (x % 2 ^ j).toNat := by
  have hm : (BitVec.ofInt 64 ((2 : Int) ^ j - 1)).toNat = 2 ^ j - 1 := by
    rw [pow_cast, BitVec.ofInt_natCast, BitVec.toNat_ofNat]
    apply Nat.mod_eq_of_lt
    have h : 2 ^ j ≤ 2 ^ 30 := Nat.pow_le_pow_right (by omega) (by omega)
    omega
  rw [BitVec.toNat_and, BitVec.toNat_ofInt, hm, Nat.and_two_pow_sub_one_eq_mod]
  have h1 : ((x % ((2 ^ 64 : Nat) : Int)).toNat % 2 ^ j : Nat) = ((x % ((2 ^ 64 : Nat) : Int)) % ((2 ^ j : Nat) : Int)).toNat := by
    have hpos : 0 ≤ x % ((2 ^ 64 : Nat) : Int) := Int.emod_nonneg _ (by decide)
    obtain ⟨m, hm⟩ := Int.eq_ofNat_of_zero_le hpos
    rw [hm]
    simp only [Int.toNat_natCast]
    rw [← Int.natCast_emod, Int.toNat_natCast]
  rw [h1]
  congr 1
  have hd : ((2 ^ j : Nat) : Int) ∣ ((2 ^ 64 : Nat) : Int) := by
    rw [Int.natCast_dvd_natCast]
    exact Nat.pow_dvd_pow 2 (by omega)
  rw [Int.emod_emod_of_dvd _ hd]
  simp
theorem and_i64 (x : Int) (j : Nat) (hj : j < 31) : bits .and .i64 x ((2 : Int) ^ j - 1) = x % 2 ^ j := by
  show IntKind.i64.wrap ((BitVec.ofInt 64 x &&& BitVec.ofInt 64 ((2 : Int) ^ j - 1)).toNat : Nat) = _
  rw [mask_key x j hj]
  have h0 := Int.emod_nonneg x (by have := pow_pos' j; omega : (2 : Int) ^ j ≠ 0)
  have h1 := Int.emod_lt_of_pos x (pow_pos' j)
  have h2 := pow_lt j hj
  rw [Int.toNat_of_nonneg h0, IntWalk.i64_in _ (by omega)]
theorem and_u64 (x : Int) (j : Nat) (hj : j < 31) : bits .and .u64 x ((2 : Int) ^ j - 1) = x % 2 ^ j := by
  show IntKind.u64.wrap ((BitVec.ofInt 64 x &&& BitVec.ofInt 64 ((2 : Int) ^ j - 1)).toNat : Nat) = _
  rw [mask_key x j hj]
  have h0 := Int.emod_nonneg x (by have := pow_pos' j; omega : (2 : Int) ^ j ≠ 0)
  have h1 := Int.emod_lt_of_pos x (pow_pos' j)
  have h2 := pow_lt j hj
  rw [Int.toNat_of_nonneg h0, IntWalk.u64_in _ (by omega)]
/-- A table's size: a power of two. -/
def P2 (n : Int) : Prop := ∃ j : Nat, j < 31 ∧ n = 2 ^ j
theorem P2.pos {n : Int} (h : P2 n) : 1 ≤ n ∧ n ≤ 1073741824 := by
  obtain ⟨j, hj, rfl⟩ := h
  have := pow_pos' j
  have := pow_lt j hj
  omega
theorem hmF_lt {n : Int} (h : P2 n) (k : Int) : 0 ≤ hmF k n ∧ hmF k n < n := by
  have := h.pos
  exact ⟨Int.emod_nonneg _ (by omega), Int.emod_lt_of_pos _ (by omega)⟩
theorem ap_mod {n a b : Int} (h0 : 0 ≤ a) (h1 : a < n) (h2 : 0 ≤ b) (h3 : b < n) : (b - a) % n = ap n a b := by
  unfold ap
  split
  · exact Int.emod_eq_of_lt (by omega) (by omega)
  · rw [← Int.add_emod_right, Int.emod_eq_of_lt (by omega) (by omega)]; omega
theorem adv_mod {n a : Int} (h0 : 0 ≤ a) (h1 : a < n) : (a + 1) % n = adv n a 1 := by
  unfold adv
  split
  · exact Int.emod_eq_of_lt (by omega) (by omega)
  · rw [show a + 1 = n by omega, Int.emod_self]; omega
set_option maxHeartbeats 800000 in
theorem mix_any (k : Int) (w : World) (h0 : 0 ≤ k) (h1 : k < 18446744073709551616) :
    Calls Try.prog 235 #[.int .u64 k] w fun e w' => e = .returned (.int .u64 (mixF k)) ∧ w = w' := by
  go_enter Try.func235, Try.ntmps235
  go_wp2
  go_ret
  exact ⟨rfl, rfl⟩
set_option maxHeartbeats 800000 in
theorem size_yes (n : Int) (h : P2 n) (w : World) :
    Calls Try.prog 234 #[.int .i64 n] w fun e w' => e = .returned (.bool true) ∧ w = w' := by
  obtain ⟨j, hj, rfl⟩ := h
  have hw : wrap64 ((2 : Int) ^ j) = 2 ^ j := by have := pow_pos' j; have := pow_lt j hj; unfold wrap64; omega
  have Heq : ((2 : Int) ^ j == wrap64 (2 ^ j)) = true := by rw [hw]; simp
  have Hne : ∀ k : Nat, k < j → ((2 : Int) ^ j == wrap64 (2 ^ k)) = false := by
    intro k hk
    have hw' : wrap64 ((2 : Int) ^ k) = 2 ^ k := by have := pow_pos' k; have := pow_lt k (by omega); unfold wrap64; omega
    rw [hw', beq_eq_false_iff_ne]
    intro he
    have : (2 : Nat) ^ k < 2 ^ j := Nat.pow_lt_pow_right (by omega) hk
    have he' : (2 : Nat) ^ j = 2 ^ k := by exact_mod_cast he
    omega
  have HNE := Go.Lib.hid Hne
  clear Hne hw
  go_enter Try.func234, Try.ntmps234
  go_wp2
  go_loop [3, 4] (fun _ i => ∃ k : Nat, k ≤ j ∧ i = .int .i64 k) (fun _ i => 31 - (intOf i).toNat)
  case atStart => exact ⟨0, Nat.zero_le _, rfl⟩
  case round =>
    obtain ⟨k, hk, rfl⟩ := hrel
    have hlt : k < 31 := by omega
    by_cases hkj : k = j
    · subst hkj
      go_wp2
      go_ret
      exact ⟨rfl, rfl⟩
    · have h1 := HNE.out k (by omega)
      go_wp2
      go_round
      case rel => exact ⟨k + 1, by omega, by go_num⟩
      case measure => simp [intOf]; omega
set_option maxHeartbeats 800000 in
theorem home_any (k n : Int) (w : World) (h0 : 0 ≤ k) (h1 : k < 18446744073709551616) (hn : P2 n) :
    Calls Try.prog 210 #[.int .u64 k, .int .i64 n] w fun e w' => e = .returned (.int .i64 (hmF k n)) ∧ w = w' := by
  have hb := hn.pos
  have hl := hmF_lt hn k
  have e1 : bits .and .u64 (mixF k) (n - 1) = hmF k n := by
    obtain ⟨j, hj, rfl⟩ := hn
    exact and_u64 _ j hj
  have hm := mixF_lo k
  have MX := fun w => mix_any k w h0 h1
  generalize mixF k = m at *
  generalize hmF k n = r at *
  have HMX := Go.Lib.hid MX
  have E1 := Go.Lib.hid e1
  clear MX e1
  obtain ⟨hb1, hb2⟩ := hb
  obtain ⟨hm1, hm2⟩ := hm
  obtain ⟨hl1, hl2⟩ := hl
  go_enter Try.func210, Try.ntmps210
  go_wp2_with fail
  refine (size_yes n hn _).mono ?_
  rintro e w1 ⟨rfl, rfl⟩
  go_wp2_with fail
  refine (HMX.out _).mono ?_
  rintro e w1 ⟨rfl, rfl⟩
  have e1 := E1.out
  go_wp2_with fail
  go_ret
  exact ⟨rfl, rfl⟩
set_option maxHeartbeats 800000 in
theorem apart_any (a b n : Int) (w : World) (h0 : 0 ≤ a) (h1 : a < n) (h2 : 0 ≤ b) (h3 : b < n) (hn : P2 n) :
    Calls Try.prog 211 #[.int .i64 a, .int .i64 b, .int .i64 n] w fun e w' => e = .returned (.int .i64 (ap n a b)) ∧ w = w' := by
  have hb := hn.pos
  have e1 : bits .and .i64 (b - a) (n - 1) = ap n a b := by
    rw [← ap_mod h0 h1 h2 h3]
    obtain ⟨j, hj, rfl⟩ := hn
    exact and_i64 _ j hj
  have hB1 := hb.1
  have hB2 := hb.2
  have E1 := Go.Lib.hid e1
  clear e1 hb
  go_enter Try.func211, Try.ntmps211
  go_wp2_with fail
  refine (size_yes n hn _).mono ?_
  rintro e w1 ⟨rfl, rfl⟩
  go_wp2_with fail
  go_ret
  exact ⟨by rw [← E1.out]; rfl, rfl⟩
end Go.Proofs.Ytlakojncjldpbaa
