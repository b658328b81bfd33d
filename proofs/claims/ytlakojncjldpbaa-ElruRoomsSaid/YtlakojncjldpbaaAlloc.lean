/- A slot is taken. -/
import Derived.Test.YtlakojncjldpbaaAgrow
namespace Go.Proofs.Ytlakojncjldpbaa
open Go.RowKit Hop
set_option linter.unusedVariables false
set_option linter.unusedSimpArgs false
set_option maxRecDepth 100000
theorem slot_write7 {w : World} {ba : Nat} {S : List Sl} (hb : Blk w ba (flat encS S) 201) {n : Nat} (hn : n < S.length) (x : Nd) (tk : Bool) :
    Blk (((((((w.setCell ⟨ba, n * 7, none⟩ (.int .u64 x.key)).setCell ⟨ba, n * 7 + 1, none⟩ (.int .u64 x.val)).setCell ⟨ba, n * 7 + 2, none⟩ (.int .i64 x.flag)).setCell ⟨ba, n * 7 + 3, none⟩ (.int .i64 x.tag)).setCell
      ⟨ba, n * 7 + 4, none⟩ (.int .i32 x.prev)).setCell ⟨ba, n * 7 + 5, none⟩ (.int .i32 x.next)).setCell ⟨ba, n * 7 + 6, none⟩ (.bool tk)) ba (flat encS (st S n ⟨x, tk⟩)) 201 := by
  have h := ((((((hb.set (n * 7) (.int .u64 x.key)).set (n * 7 + 1) (.int .u64 x.val)).set (n * 7 + 2) (.int .i64 x.flag)).set (n * 7 + 3) (.int .i64 x.tag)).set (n * 7 + 4) (.int .i32 x.prev)).set (n * 7 + 5) (.int .i32 x.next)).set (n * 7 + 6) (.bool tk)
  have q0 := flat_set encS_len S n 0 hn (.int .u64 x.key) ⟨⟨x.key, S[n].nd.val, S[n].nd.flag, S[n].nd.tag, S[n].nd.prev, S[n].nd.next⟩, S[n].taken⟩ (by omega) (by simp [encS])
  have q1 := flat_set encS_len (S.set n ⟨⟨x.key, S[n].nd.val, S[n].nd.flag, S[n].nd.tag, S[n].nd.prev, S[n].nd.next⟩, S[n].taken⟩) n 1 (by simpa using hn) (.int .u64 x.val) ⟨⟨x.key, x.val, S[n].nd.flag, S[n].nd.tag, S[n].nd.prev, S[n].nd.next⟩, S[n].taken⟩ (by omega) (by simp [encS])
  have q2 := flat_set encS_len (S.set n ⟨⟨x.key, x.val, S[n].nd.flag, S[n].nd.tag, S[n].nd.prev, S[n].nd.next⟩, S[n].taken⟩) n 2 (by simpa using hn) (.int .i64 x.flag) ⟨⟨x.key, x.val, x.flag, S[n].nd.tag, S[n].nd.prev, S[n].nd.next⟩, S[n].taken⟩ (by omega) (by simp [encS])
  have q3 := flat_set encS_len (S.set n ⟨⟨x.key, x.val, x.flag, S[n].nd.tag, S[n].nd.prev, S[n].nd.next⟩, S[n].taken⟩) n 3 (by simpa using hn) (.int .i64 x.tag) ⟨⟨x.key, x.val, x.flag, x.tag, S[n].nd.prev, S[n].nd.next⟩, S[n].taken⟩ (by omega) (by simp [encS])
  have q4 := flat_set encS_len (S.set n ⟨⟨x.key, x.val, x.flag, x.tag, S[n].nd.prev, S[n].nd.next⟩, S[n].taken⟩) n 4 (by simpa using hn) (.int .i32 x.prev) ⟨⟨x.key, x.val, x.flag, x.tag, x.prev, S[n].nd.next⟩, S[n].taken⟩ (by omega) (by simp [encS])
  have q5 := flat_set encS_len (S.set n ⟨⟨x.key, x.val, x.flag, x.tag, x.prev, S[n].nd.next⟩, S[n].taken⟩) n 5 (by simpa using hn) (.int .i32 x.next) ⟨x, S[n].taken⟩ (by omega) (by simp [encS])
  have q6 := flat_set encS_len (S.set n ⟨x, S[n].taken⟩) n 6 (by simpa using hn) (.bool tk) ⟨x, tk⟩ (by omega) (by simp [encS])
  simp only [List.set_set] at q1 q2 q3 q4 q5 q6
  simp only [Nat.add_zero] at q0
  rw [q0, q1, q2, q3, q4, q5, q6] at h
  simpa [st] using h
section
variable (pa ba : Nat) (S : List Sl) (fv : Value) (nx lv : Int)
set_option maxHeartbeats 1600000 in
/-- None was freed, and there is room. -/
theorem alloc_room (w : World) (hn : S.length < 1000000) (h0 : 0 < nx) (h1 : nx < S.length) (hlv : 0 ≤ lv ∧ lv < 1000000) (hf : ∃ a c, fv = .slice a 0 c)
    (ha : Blk w pa [S0 ba S.length, fv, .int .i64 nx, .int .i64 lv] 189) (hb : Blk w ba (flat encS S) 201) :
    Calls Try.prog 216 #[P0 pa] w fun e w' => e = .returned (.int .i32 nx) ∧ Fr (fun k => k = pa ∨ k = ba) w w' ∧
      Blk w' pa [S0 ba S.length, fv, .int .i64 (nx + 1), .int .i64 (lv + 1)] 189 ∧ Blk w' ba (flat encS (st S nx ⟨Nd.z, true⟩)) 201 := by
  obtain ⟨fa, fc, rfl⟩ := hf
  obtain ⟨n, rfl⟩ := Int.eq_ofNat_of_zero_le (Int.le_of_lt h0)
  have h0' : 0 < n := by omega
  have h1' : n < S.length := by omega
  have c0 := ha.cell 0
  have c1 := ha.cell 1
  have c2 := ha.cell 2
  have c3 := ha.cell 3
  have f2 := ha.frozen 2
  have f3 := ha.frozen 3
  have d0 := slot_cell hb h1' (j := 0) (by omega)
  have d1 := slot_cell hb h1' (j := 1) (by omega)
  have d2 := slot_cell hb h1' (j := 2) (by omega)
  have d3 := slot_cell hb h1' (j := 3) (by omega)
  have d4 := slot_cell hb h1' (j := 4) (by omega)
  have d5 := slot_cell hb h1' (j := 5) (by omega)
  have d6 := slot_cell hb h1' (j := 6) (by omega)
  have k0 := hb.frozen (n * 7)
  have k1 := hb.frozen (n * 7 + 1)
  have k2 := hb.frozen (n * 7 + 2)
  have k3 := hb.frozen (n * 7 + 3)
  have k4 := hb.frozen (n * 7 + 4)
  have k5 := hb.frozen (n * 7 + 5)
  have k6 := hb.frozen (n * 7 + 6)
  simp only [encS, List.getElem?_cons_zero, List.getElem?_cons_succ, Nat.add_zero] at c0 c1 c2 c3 d0 d1 d2 d3 d4 d5 d6
  have hne := ha.ne hb (by decide)
  have hne' := hne.symm
  have b1 : (n == S.length) = false := by simp; omega
  have b2 : ((n : Int) == (S.length : Int)) = false := by rw [beq_eq_false_iff_ne]; omega
  obtain ⟨hl0, hl1⟩ := hlv
  go_enter Try.func216, Try.ntmps216
  go_wp2_with fail
  go_quiet (fail)
  go_wp2_with fail
  go_ret
  have a1 : Blk (w.drewN nq) pa _ 189 := ha.of_heap rfl
  have b1 : Blk (w.drewN nq) ba _ 201 := hb.of_heap rfl
  refine ⟨rfl, ?_, ?_, ?_⟩
  · have F0 : Fr (fun k => k = pa ∨ k = ba) w (w.drewN nq) := ⟨rfl, rfl, rfl, Nat.le_refl _, fun _ _ _ => rfl⟩
    repeat (with_reducible first | exact F0 | refine Fr.setEq ?_ ?_ _)
    all_goals first | exact .inl rfl | exact .inr rfl
  · exact ((((((((((a1.set 2 (.int .i64 (n + 1))).set_ne hne _).set_ne hne _).set_ne hne _).set_ne hne _).set_ne hne _).set_ne hne _).set_ne hne _)).set 3 (.int .i64 (lv + 1)))
  · exact (slot_write7 (b1.set_ne (a := ⟨pa, 2, none⟩) hne' _) h1' Nd.z true).set_ne hne' _
set_option maxHeartbeats 1600000 in
/-- One was freed. -/
theorem alloc_freed (g m cap : Nat) (cs : List Value) (i : Int) (w : World) (hn : S.length < 1000000) (h0 : 0 < i) (h1 : i < S.length) (hlv : 0 ≤ lv ∧ lv < 1000000) (hm : m < cap) (hcap : cap ≤ 9223372036854775807) (hnx : 0 ≤ nx ∧ nx < 1000000)
    (hg : Blk w g cs 21) (hc : cs[m]? = some (.int .i32 i))
    (ha : Blk w pa [S0 ba S.length, .slice (some ⟨g, 0, none⟩) (m + 1) cap, .int .i64 nx, .int .i64 lv] 189) (hb : Blk w ba (flat encS S) 201) :
    Calls Try.prog 216 #[P0 pa] w fun e w' => e = .returned (.int .i32 i) ∧ Fr (fun k => k = pa ∨ k = ba) w w' ∧
      Blk w' pa [S0 ba S.length, .slice (some ⟨g, 0, none⟩) m m, .int .i64 nx, .int .i64 (lv + 1)] 189 ∧ Blk w' ba (flat encS (st S i ⟨Nd.z, true⟩)) 201 := by
  obtain ⟨n, rfl⟩ := Int.eq_ofNat_of_zero_le (Int.le_of_lt h0)
  have h0' : 0 < n := by omega
  have h1' : n < S.length := by omega
  have c0 := ha.cell 0
  have c1 := ha.cell 1
  have c2 := ha.cell 2
  have c3 := ha.cell 3
  have f2 := ha.frozen 2
  have f3 := ha.frozen 3
  have d0 := slot_cell hb h1' (j := 0) (by omega)
  have d1 := slot_cell hb h1' (j := 1) (by omega)
  have d2 := slot_cell hb h1' (j := 2) (by omega)
  have d3 := slot_cell hb h1' (j := 3) (by omega)
  have d4 := slot_cell hb h1' (j := 4) (by omega)
  have d5 := slot_cell hb h1' (j := 5) (by omega)
  have d6 := slot_cell hb h1' (j := 6) (by omega)
  have k0 := hb.frozen (n * 7)
  have k1 := hb.frozen (n * 7 + 1)
  have k2 := hb.frozen (n * 7 + 2)
  have k3 := hb.frozen (n * 7 + 3)
  have k4 := hb.frozen (n * 7 + 4)
  have k5 := hb.frozen (n * 7 + 5)
  have k6 := hb.frozen (n * 7 + 6)
  simp only [encS, List.getElem?_cons_zero, List.getElem?_cons_succ, Nat.add_zero] at c0 c1 c2 c3 d0 d1 d2 d3 d4 d5 d6
  have hne := ha.ne hb (by decide)
  have hne' := hne.symm
  have f1 := ha.frozen 1
  have cg := hg.cell m
  rw [hc] at cg
  have gp := hg.ne ha (by decide)
  have gb := hg.ne hb (by decide)
  obtain ⟨hl0, hl1⟩ := hlv
  obtain ⟨hx0, hx1⟩ := hnx
  have HC := Go.Lib.hid hc
  clear hc
  go_enter Try.func216, Try.ntmps216
  go_wp2_with fail
  go_ret
  refine ⟨rfl, ?_, ?_, ?_⟩
  · repeat (with_reducible first | exact Fr.refl _ _ | refine Fr.setEq ?_ ?_ _)
    all_goals first | exact .inl rfl | exact .inr rfl
  · exact ((((((((((ha.set 1 (.slice (some ⟨g, 0, none⟩) m m)).set_ne hne _).set_ne hne _).set_ne hne _).set_ne hne _).set_ne hne _).set_ne hne _).set_ne hne _)).set 3 (.int .i64 (lv + 1)))
  · exact (slot_write7 (hb.set_ne (a := ⟨pa, 1, none⟩) hne' _) h1' Nd.z true).set_ne hne' _
set_option maxHeartbeats 1600000 in
/-- None was freed, and there is no room. -/
theorem alloc_grow (w : World) (hn : S.length < 500000) (h0 : 0 < S.length) (hlv : 0 ≤ lv ∧ lv < 1000000) (hf : ∃ a c, fv = .slice a 0 c)
    (ha : Blk w pa [S0 ba S.length, fv, .int .i64 S.length, .int .i64 lv] 189) (hb : Blk w ba (flat encS S) 201) :
    Calls Try.prog 216 #[P0 pa] w fun e w' => e = .returned (.int .i32 S.length) ∧ ∃ ba', w.heap.size ≤ ba' ∧ Fr (fun k => k = pa ∨ k = ba) w w' ∧
      Blk w' pa [S0 ba' (2 * S.length), fv, .int .i64 (S.length + 1), .int .i64 (lv + 1)] 189 ∧ Blk w' ba' (flat encS (st (S ++ List.replicate S.length Sl.z) S.length ⟨Nd.z, true⟩)) 201 := by
  obtain ⟨fa, fc, rfl⟩ := hf
  have z0 := ha.cell 0
  have z1 := ha.cell 1
  have z2 := ha.cell 2
  simp only [List.getElem?_cons_zero, List.getElem?_cons_succ] at z0 z1 z2
  obtain ⟨hl0, hl1⟩ := hlv
  have hlp := ha.lt
  have h1' : S.length < (S ++ List.replicate S.length Sl.z).length := by simp; omega
  have e2 : 2 * S.length = (S ++ List.replicate S.length Sl.z).length := by simp; omega
  have GR := fun w => agrow_any pa ba S (.slice fa 0 fc) (.int .i64 S.length) (.int .i64 lv) w (by omega)
  rw [e2] at GR ⊢
  have hn2 : (S ++ List.replicate S.length Sl.z).length < 1000000 := by omega
  clear e2
  generalize S ++ List.replicate S.length Sl.z = S2 at *
  generalize flat encS S = FS at *
  generalize S.length = n at *
  have HGR := Go.Lib.hid GR
  clear GR
  go_enter Try.func216, Try.ntmps216
  go_wp2_with fail
  go_quiet (fail)
  go_wp2_with fail
  have a1 : Blk (w.drewN nq) pa _ 189 := ha.of_heap rfl
  have b1 : Blk (w.drewN nq) ba _ 201 := hb.of_heap rfl
  refine (HGR.out _ a1 b1).mono ?_
  rintro e w1 ⟨rfl, ba1, hge, hf1, ha1, hb1⟩
  have F1 : Fr (fun k => k = pa ∨ k = ba) w w1 := Fr.trans (b := w.drewN nq) (own' := fun k => k = pa) ⟨rfl, rfl, rfl, Nat.le_refl _, fun _ _ _ => rfl⟩ hf1 (fun k hk => .inl (.inl hk))
  have hge' : w.heap.size ≤ ba1 := hge
  have HF := Go.Lib.hid F1
  clear hf1 ha hb a1 b1 hge F1 z0 z1 z2
  have c0 := ha1.cell 0
  have c2 := ha1.cell 2
  have c3 := ha1.cell 3
  have f2 := ha1.frozen 2
  have f3 := ha1.frozen 3
  have d0 := slot_cell hb1 h1' (j := 0) (by omega)
  have d1 := slot_cell hb1 h1' (j := 1) (by omega)
  have d2 := slot_cell hb1 h1' (j := 2) (by omega)
  have d3 := slot_cell hb1 h1' (j := 3) (by omega)
  have d4 := slot_cell hb1 h1' (j := 4) (by omega)
  have d5 := slot_cell hb1 h1' (j := 5) (by omega)
  have d6 := slot_cell hb1 h1' (j := 6) (by omega)
  have k0 := hb1.frozen (n * 7)
  have k1 := hb1.frozen (n * 7 + 1)
  have k2 := hb1.frozen (n * 7 + 2)
  have k3 := hb1.frozen (n * 7 + 3)
  have k4 := hb1.frozen (n * 7 + 4)
  have k5 := hb1.frozen (n * 7 + 5)
  have k6 := hb1.frozen (n * 7 + 6)
  simp only [encS, List.getElem?_cons_zero, List.getElem?_cons_succ, Nat.add_zero] at c0 c2 c3 d0 d1 d2 d3 d4 d5 d6
  have hne : pa ≠ ba1 := ha1.ne hb1 (by decide)
  have hne' := hne.symm
  go_wp2_with fail
  go_ret
  refine ⟨rfl, ba1, hge', ?_, ?_, ?_⟩
  · repeat (with_reducible first | exact HF.out | refine Fr.setEq ?_ (.inl rfl) _ | refine Fr.setNew ?_ hge' _)
  · exact ((((((((((ha1.set 2 (.int .i64 (n + 1))).set_ne hne _).set_ne hne _).set_ne hne _).set_ne hne _).set_ne hne _).set_ne hne _).set_ne hne _)).set 3 (.int .i64 (lv + 1)))
  · exact (slot_write7 (hb1.set_ne (a := ⟨pa, 2, none⟩) hne' _) h1' Nd.z true).set_ne hne' _
end
end Go.Proofs.Ytlakojncjldpbaa
