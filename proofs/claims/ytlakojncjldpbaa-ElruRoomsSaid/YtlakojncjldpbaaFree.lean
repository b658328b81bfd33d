/- A slot is freed. -/
import Derived.Test.YtlakojncjldpbaaAlloc
namespace Go.Proofs.Ytlakojncjldpbaa
open Go.RowKit Hop
set_option linter.unusedVariables false
set_option linter.unusedSimpArgs false
set_option maxRecDepth 100000
theorem i32_info : (Try.prog.info? 21).map (fun i => (i.zero, i.size, i.bytes)) = some (some (.int .i32 0), 1, 4) := by kernel_rfl
section
variable (pa ba : Nat) (S : List Sl) (nx lv : Int)
set_option maxHeartbeats 1600000 in
theorem free_yes (fv : Value) (fs : List Int) (i : Int) (w : World) (hn : S.length < 1000000) (hi : isT S i = true) (hlv : 0 < lv ∧ lv < 1000000) (hf : Frv w fv fs) (hfl : fs.length < 1000000)
    (ha : Blk w pa [S0 ba S.length, fv, .int .i64 nx, .int .i64 lv] 189) (hb : Blk w ba (flat encS S) 201) :
    Calls Try.prog 177 #[P0 pa, .int .i32 i] w fun e w' => e = .returned (.bool true) ∧ Fr (fun k => k = pa ∨ k = ba ∨ fv.ownBlock = some k) w w' ∧ ∃ fv',
      Blk w' pa [S0 ba S.length, fv', .int .i64 nx, .int .i64 (lv - 1)] 189 ∧ Blk w' ba (flat encS (st S i Sl.z)) 201 ∧ Frv w' fv' (fs ++ [i]) ∧ (∀ k, fv'.ownBlock = some k → fv.ownBlock = some k ∨ w.heap.size ≤ k) := by
  obtain ⟨h0, h1, h2⟩ := isT_lt hi
  obtain ⟨n, rfl⟩ := Int.eq_ofNat_of_zero_le (Int.le_of_lt h0)
  have h0' : 0 < n := by omega
  have h1' : n < S.length := by omega
  have c0 := ha.cell 0
  have c1 := ha.cell 1
  have d0 := slot_cell hb h1' (j := 0) (by omega)
  have d1 := slot_cell hb h1' (j := 1) (by omega)
  have d2 := slot_cell hb h1' (j := 2) (by omega)
  have d3 := slot_cell hb h1' (j := 3) (by omega)
  have d4 := slot_cell hb h1' (j := 4) (by omega)
  have d5 := slot_cell hb h1' (j := 5) (by omega)
  have d6 := slot_cell hb h1' (j := 6) (by omega)
  have k0 := hb.frozen (n * 7)
  have k1 := hb.frozen (n * 7 + 1)
  have k2 := hb.frozen (n * 7 + 2)
  have k3 := hb.frozen (n * 7 + 3)
  have k4 := hb.frozen (n * 7 + 4)
  have k5 := hb.frozen (n * 7 + 5)
  have k6 := hb.frozen (n * 7 + 6)
  simp only [encS, List.getElem?_cons_zero, List.getElem?_cons_succ, Nat.add_zero] at c0 c1 d0 d1 d2 d3 d4 d5 d6
  have hne := ha.ne hb (by decide)
  have hne' := hne.symm
  have lp := ha.lt
  have lb := hb.lt
  obtain ⟨hl0, hl1⟩ := hlv
  have HT := Go.Lib.hid hi
  have ofv : ∀ k, fv.ownBlock = some k → k < w.heap.size ∧ k ≠ pa ∧ k ≠ ba := by
    intro k hk
    obtain ⟨q1, cs, q2⟩ := hf.lt hk
    exact ⟨q1, q2.ne ha (by decide), q2.ne hb (by decide)⟩
  have HOF := Go.Lib.hid ofv
  obtain ⟨W1, hW1⟩ : ∃ W1, W1 = ((((((((w.setCell ⟨ba, n * 7, none⟩ (.int .u64 0)).setCell ⟨ba, n * 7 + 1, none⟩ (.int .u64 0)).setCell ⟨ba, n * 7 + 2, none⟩ (.int .i64 0)).setCell ⟨ba, n * 7 + 3, none⟩ (.int .i64 0)).setCell
      ⟨ba, n * 7 + 4, none⟩ (.int .i32 0)).setCell ⟨ba, n * 7 + 5, none⟩ (.int .i32 0)).setCell ⟨ba, n * 7 + 6, none⟩ (.bool false)).alloc (.cells #[.int .i32 n] 21)) := ⟨_, rfl⟩
  have F0 : Fr (fun k => k = ba) w W1 := by
    rw [hW1]
    repeat (with_reducible first | exact Fr.refl _ _ | refine Fr.alloc ?_ _ | refine Fr.setEq ?_ ?_ _)
    all_goals rfl
  have B1 : Blk W1 ba (flat encS (st S n Sl.z)) 201 := by
    rw [hW1]
    exact (slot_write7 hb h1' Nd.z false).alloc _
  have A1 : Blk W1 pa _ 189 := F0.blk hne ha
  have R1 : Row W1 21 1 fv fs.length (fs.map (Value.int .i32)) := Row.frame hf F0 (fun k hk => (ofv k hk).2.2)
  have Q1 : Blk W1 w.heap.size [Value.int .i32 n] 21 := by
    rw [hW1]
    have q := Blk.new0 (((((((w.setCell ⟨ba, n * 7, none⟩ (.int .u64 0)).setCell ⟨ba, n * 7 + 1, none⟩ (.int .u64 0)).setCell ⟨ba, n * 7 + 2, none⟩ (.int .i64 0)).setCell ⟨ba, n * 7 + 3, none⟩ (.int .i64 0)).setCell
      ⟨ba, n * 7 + 4, none⟩ (.int .i32 0)).setCell ⟨ba, n * 7 + 5, none⟩ (.int .i32 0)).setCell ⟨ba, n * 7 + 6, none⟩ (.bool false)) [Value.int .i32 n] 21
    simpa only [World.size_setCell] using q
  have F1 : Fr (fun k => k = pa ∨ k = ba ∨ fv.ownBlock = some k) w W1 := F0.mono (fun k hk => .inr (.inl hk))
  have HR1 := Go.Lib.hid R1
  have HB1 := Go.Lib.hid B1
  have HA1 := Go.Lib.hid A1
  have HF1 := Go.Lib.hid F1
  have HQ1 := Go.Lib.hid Q1
  have HW1 := Go.Lib.hid hW1
  clear hi h2 ofv R1 F1 A1 B1 F0 Q1 hW1
  go_enter Try.func177, Try.ntmps177
  go_wp2_with fail
  refine (is_any pa ba S _ _ _ n _ (by omega) hn ha hb).mono ?_
  rw [HT.out]
  rintro e w' ⟨rfl, rfl⟩
  go_wp2_with (at_builtin; rw [← HW1.out]; refine wpList_append_row _ rfl (.tmp 20) (.tmp 22) 161 rfl 21 (.int .i32 0) 1 4 Try.underlying161 i32_info rfl (by decide) fv fs.length (fs.map (Value.int .i32)) rfl HR1.out ⟨w.heap.size, 0, none⟩ 1 1 [.int .i32 n] rfl (by decide) rfl ?c1 ?c2 ?b1 ?b2 ?next)
  case c1 => intro j u hj; match j, hj with | 0, hj => simp at hj; subst hj; simpa [Addr.add] using HQ1.out.cell 0
  case c2 => intro u hu; simp at hu; subst hu; rfl
  case b1 => unfold maxLen; omega
  case b2 => omega
  case next =>
    intro g' cap' w1 hr hf1 hg
    have a1 : Blk w1 pa _ 189 := hf1.blk (fun hk => (HOF.out pa hk).2.1 rfl) HA1.out
    have b1 : Blk w1 ba _ 201 := hf1.blk (fun hk => (HOF.out ba hk).2.2 rfl) HB1.out
    have F2 : Fr (fun k => k = pa ∨ k = ba ∨ fv.ownBlock = some k) w w1 := HF1.out.trans hf1 (fun k hk => .inl (.inr (.inr hk)))
    have c3 := a1.cell 3
    have c1' := a1.cell 1
    have f1 := a1.frozen 1
    have f3 := a1.frozen 3
    simp only [List.getElem?_cons_zero, List.getElem?_cons_succ] at c3 c1'
    have hgp : g' ≠ pa := by
      rcases hg with hg | hg
      · exact (HOF.out g' hg).2.1
      · intro e; subst e
        have := Nat.le_trans HF1.out.size hg
        omega
    have F3 := (F2.setEq (b := pa) (o := 1) (.inl rfl) (.slice (some ⟨g', 0, none⟩) (fs.length + 1) cap')).setEq (b := pa) (o := 3) (.inl rfl) (.int .i64 (lv - 1))
    have A3 := (a1.set 1 (.slice (some ⟨g', 0, none⟩) (fs.length + 1) cap')).set 3 (.int .i64 (lv - 1))
    have B3 := (b1.set_ne (a := ⟨pa, 1, none⟩) hne' (.slice (some ⟨g', 0, none⟩) (fs.length + 1) cap')).set_ne (a := ⟨pa, 3, none⟩) hne' (.int .i64 (lv - 1))
    have R3 := hr.frame (own := fun k => k = pa) (((Fr.refl (fun k => k = pa) w1).setEq (b := pa) (o := 1) rfl (.slice (some ⟨g', 0, none⟩) (fs.length + 1) cap')).setEq (b := pa) (o := 3) rfl (.int .i64 (lv - 1))) (fun k hk => by
      have e : g' = k := by simpa [Value.ownBlock] using hk
      subst e; exact hgp)
    have HG := Go.Lib.hid hg
    have HR := Go.Lib.hid R3
    have HFF := Go.Lib.hid F3
    clear hf1 hr F2 hg R3 F3
    go_wp2_with fail
    go_ret
    refine ⟨rfl, HFF.out, _, A3, B3, ?_, ?_⟩
    · have e1 : (fs ++ [(n : Int)]).length = fs.length + 1 := by simp
      have e2 : (fs ++ [(n : Int)]).map (Value.int .i32) = fs.map (Value.int .i32) ++ [.int .i32 n] := by simp
      unfold Frv
      rw [e1, e2]
      exact HR.out
    · intro k hk
      have e : g' = k := by simpa [Value.ownBlock] using hk
      subst e
      rcases HG.out with q | q
      · exact .inl q
      · exact .inr (Nat.le_trans HF1.out.size q)
end
end Go.Proofs.Ytlakojncjldpbaa
