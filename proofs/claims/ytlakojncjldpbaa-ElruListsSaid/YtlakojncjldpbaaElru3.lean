/- The cache over a store: New, Admit, Resize, State, Keys. -/
import Derived.Test.YtlakojncjldpbaaElru2
namespace Go.Proofs.Ytlakojncjldpbaa
open Go.RowKit Hop
set_option linter.unusedVariables false
set_option linter.unusedSimpArgs false
set_option maxRecDepth 100000
theorem lus_c (c : Int) (v : Value) (w : World) : (Instr.field 39 (.agg #[.int .i64 c, v]) 0).run Try.prog w = .ok (.int .i64 c) w := by kernel_rfl
theorem lus_l (c : Int) (v : Value) (w : World) : (Instr.field 39 (.agg #[.int .i64 c, v]) 1).run Try.prog w = .ok v w := by kernel_rfl
set_option maxHeartbeats 800000 in
theorem lucap_any (c : Int) (w : World) :
    Calls Try.prog 152 #[.int .i64 c] w fun e w' => e = .returned (.int .i64 (capF c)) ∧ w = w' := by
  by_cases h1 : c < 1
  · have e : capF c = 1 := by unfold capF; rw [if_pos h1]
    rw [e]
    clear e
    go_enter Try.func152, Try.ntmps152
    go_wp2_with fail
    all_goals first | (exfalso; omega) | (go_ret; exact ⟨rfl, rfl⟩)
  · by_cases h2 : 1048576 < c
    · have e : capF c = 1048576 := by unfold capF; rw [if_neg h1, if_pos h2]
      rw [e]
      clear e
      go_enter Try.func152, Try.ntmps152
      go_wp2_with fail
      all_goals first | (exfalso; omega) | (go_ret; exact ⟨rfl, rfl⟩)
    · have e : capF c = c := by unfold capF; rw [if_neg h1, if_neg h2]
      rw [e]
      clear e
      go_enter Try.func152, Try.ntmps152
      go_wp2_with fail
      all_goals first | (exfalso; omega) | (go_ret; exact ⟨rfl, rfl⟩) | (go_ret; refine ⟨?_, rfl⟩; congr 2; omega)
set_option maxHeartbeats 800000 in
theorem lunew_any (c : Int) (w : World) :
    Calls Try.prog 93 #[.int .i64 c] w fun e w' => e = .returned (.agg #[.int .i64 (capF c), .slice none 0 0]) ∧ Below w.heap.size w w' := by
  have HB := Go.Lib.hid ((Below.refl w.heap.size w).alloc (Nat.le_refl _) (.cells #[.int .i64 (capF c), .slice none 0 0] 39))
  go_enter Try.func93, Try.ntmps93
  go_wp2_with fail
  refine (lucap_any c _).mono ?_
  rintro e w1 ⟨rfl, rfl⟩
  go_wp2_with fail
  refine bodyPost_ret (v := .agg #[.int .i64 (capF c), .slice none 0 0]) (by simp [results, Try.results93, go_sem]) rfl ⟨rfl, HB.out⟩
theorem capF_in (c : Int) : 1 ≤ capF c ∧ capF c ≤ 1048576 := by unfold capF; split <;> (try split) <;> omega
section
variable {ps : Nat} {O : Nat → Prop} {p : Nat} {L : List Int} {c : Int}
set_option maxHeartbeats 800000 in
theorem enew_any (n : Int) (w : World) :
    Calls Try.prog 20 #[.int .i64 n] w fun e w' => ∃ px O', e = .returned (P0 px) ∧ Ela w' px O' [] (capF n) 0 ∧ (∀ k, O' k → w.heap.size ≤ k) ∧ Below w.heap.size w w' := by
  have f0 := lus_c
  go_enter Try.func20, Try.ntmps20
  go_wp2_with fail
  refine (new_sta 1 w (by omega) (by omega)).mono ?_
  rintro e w1 ⟨ps, rfl, hge, O, hs, ho, hb⟩
  have HS := Go.Lib.hid hs
  have HO := Go.Lib.hid ho
  have HB := Go.Lib.hid hb
  clear hs ho hb
  go_wp2_with fail
  refine (lunew_any n w1).mono ?_
  rintro e w2 ⟨rfl, hb2⟩
  have HB2 := Go.Lib.hid hb2
  clear hb2
  go_wp2_with fail
  go_ret
  have sz1 := HB.out.size
  have sz2 := HB2.out.size
  have B2 := HB.out.trans (HB2.out.mono sz1)
  have A := (Below.refl w2.heap.size w2).alloc (Nat.le_refl _) (.cells #[P0 ps, .int .i64 (capF n)] 113)
  have S2 := HS.out.keep HB2.out
  refine ⟨w2.heap.size, _, rfl, ⟨ps, O, Blk.new0 w2 [P0 ps, .int .i64 (capF n)] 113, S2.keep A, fun h => by have := S2.lt h; omega, rfl⟩, ?_, B2.alloc (by omega) _⟩
  rintro k (rfl | hk)
  · omega
  · exact HO.out k hk
set_option maxHeartbeats 1600000 in
theorem eadmit_any (px : Nat) (k : Int) (w : World) (hk0 : 0 ≤ k) (hk1 : k < 18446744073709551616) (hc : 1 ≤ c ∧ c ≤ 1048576) (hp : p < 49999) (H : Ela w px O L c p) :
    Calls Try.prog 38 #[P0 px, .int .u64 k] w fun e w' => ∃ vo O' p', e = .returned vo ∧ KL w' vo (admitO c L k) ∧ Ela w' px O' (admitL c L k) c p' ∧ Chg O O' w w' ∧ p' ≤ max p c.toNat := by
  obtain ⟨hc1, hc2⟩ := hc
  have hA : Hid (admitL c L k = if k ∈ L then L else k :: wo (L.take (c - 1).toNat) k) := Go.Lib.hid rfl
  have hO : Hid (admitO c L k = if k ∈ L then [] else fallL L (c - 1)) := Go.Lib.hid rfl
  have HE := Go.Lib.hid (ehas_any px k w hk0 hk1 H)
  have HH := Go.Lib.hid H
  clear H
  go_enter Try.func38, Try.ntmps38
  go_wp2_with fail
  refine HE.out.mono ?_
  by_cases hk : k ∈ L
  · have hd : decide (k ∈ L) = true := decide_eq_true hk
    rw [hd]
    rw [if_pos hk] at hA hO
    clear hd hk
    rintro e w1 ⟨rfl, hb⟩
    have HB := Go.Lib.hid hb
    clear hb
    go_wp2_with fail
    go_ret
    refine ⟨_, O, p, rfl, ?_, ?_, Chg.of_below HB.out, by omega⟩
    · rw [hO.out]; exact KL.nil _
    · rw [hA.out]; exact HH.out.keep HB.out
  · have hd : decide (k ∈ L) = false := decide_eq_false hk
    rw [hd]
    rw [if_neg hk] at hA hO
    have HK := Go.Lib.hid hk
    clear hd hk
    rintro e w1 ⟨rfl, hb⟩
    obtain ⟨ps, O1, hx, hs, hn, hOO⟩ := HH.out.keep hb
    have c1 := hx.cell 1
    simp only [List.getElem?_cons_zero, List.getElem?_cons_succ] at c1
    have HB := Go.Lib.hid hb
    have HX := Go.Lib.hid hx
    have HN := Go.Lib.hid hn
    have HOO := Go.Lib.hid hOO
    have HSK := Go.Lib.hid (eshrink_any px c L (c - 1) w1 (by omega) (by omega) hx hn hs)
    have hxl := hx.lt
    clear hb hx hs hn hOO
    go_wp2_with fail
    refine HSK.out.mono ?_
    rintro e w2 ⟨vo, O2, rfl, hs2, hc2', hko, hoo⟩
    have hx2 := hc2'.blk HN.out HX.out
    have hn2 := hc2'.not hxl HN.out
    have c0 := hx2.cell 0
    simp only [List.getElem?_cons_zero, List.getElem?_cons_succ] at c0
    have hkn : k ∉ L.take (c - 1).toNat := fun h => HK.out (List.mem_of_mem_take h)
    have hwo : wo (L.take (c - 1).toNat) k = L.take (c - 1).toNat := by
      unfold wo
      exact List.filter_eq_self.2 (fun a ha => by simp; rintro rfl; exact hkn ha)
    have HPF := Go.Lib.hid (pushfront_sta 0 k w2 hk0 hk1 (by unfold qL; simp) hp (fun h => hkn ((hasK_qL _ _).1 h)) hs2)
    have hln : (L.take (c - 1).toNat).length + 1 ≤ c.toNat := by rw [List.length_take]; omega
    have HLN := Go.Lib.hid hln
    rw [tot_qL] at HPF
    have HWO := Go.Lib.hid hwo
    have HC2 := Go.Lib.hid hc2'
    have HX2 := Go.Lib.hid hx2
    have HN2 := Go.Lib.hid hn2
    have HKO := Go.Lib.hid hko
    have HO2 := Go.Lib.hid hoo
    clear hs2 hc2' hko hoo hx2 hn2 hkn hwo hln c1
    go_wp2_with fail
    refine HPF.out.mono ?_
    rintro e w3 ⟨rfl, O3, hs3, hc3⟩
    have HS3 := Go.Lib.hid hs3
    have HC3 := Go.Lib.hid hc3
    clear hs3 hc3
    go_wp2_with fail
    go_ret
    have lx2 := HX2.out.lt
    have C : Chg O1 O3 w1 w3 := HC2.out.trans HC3.out
    refine ⟨_, _, max p ((L.take (c - 1).toNat).length + 1), rfl, ?_, ⟨ps, O3, HC3.out.blk HN2.out HX2.out, ?_, HC3.out.not lx2 HN2.out, rfl⟩, ?_, ?_⟩
    · rw [hO.out]
      exact Row.frame HKO.out HC3.out.fr (fun b hb => (HO2.out b hb).2)
    · rw [hA.out, HWO.out, ← ins_qL]
      exact HS3.out
    · rw [HOO.out]
      exact (Chg.of_below HB.out).trans (chg_up px C)
    · have := HLN.out; omega
set_option maxHeartbeats 1600000 in
theorem eresize_any (px : Nat) (n : Int) (w : World) (H : Ela w px O L c p) :
    Calls Try.prog 39 #[P0 px, .int .i64 n] w fun e w' => ∃ vo O', e = .returned vo ∧ KL w' vo (fallL L (capF n)) ∧ Ela w' px O' (L.take (capF n).toNat) (capF n) p ∧ Chg O O' w w' := by
  obtain ⟨hc1, hc2⟩ := capF_in n
  have HLN := Go.Lib.hid (fun w => lunew_any n w)
  generalize capF n = cf at *
  obtain ⟨ps, O1, hx, hs, hn, rfl⟩ := H
  have f0 := lus_c
  have HX := Go.Lib.hid hx
  have HS := Go.Lib.hid hs
  have HN := Go.Lib.hid hn
  have hxl := hx.lt
  clear hx hs hn
  go_enter Try.func39, Try.ntmps39
  go_wp2_with fail
  refine (HLN.out _).mono ?_
  rintro e w1 ⟨rfl, hb⟩
  have hx1 := HX.out.keep hb
  have c0 := hx1.cell 0
  have c1 := hx1.cell 1
  have f1 := hx1.frozen 1
  simp only [List.getElem?_cons_zero, List.getElem?_cons_succ] at c0 c1
  have hxl1 := hx1.lt
  have X2 := hx1.set 1 (.int .i64 cf)
  have S2 : Sta (w1.setCell ⟨px, 1, none⟩ (.int .i64 cf)) ps O1 (qL L) p := (HS.out.keep hb).frame (own := fun k => k = px) ((Fr.refl (fun k => k = px) w1).setEq rfl _) (fun k hk e => HN.out (e ▸ hk))
  have C2 : Chg (fun k => k = px ∨ O1 k) (fun k => k = px ∨ O1 k) w (w1.setCell ⟨px, 1, none⟩ (.int .i64 cf)) := (Chg.of_below hb).trans ⟨(Fr.refl (fun k => k = px ∨ O1 k) w1).setEq (.inl rfl) _, fun k hk => .inl hk⟩
  have HX2 := Go.Lib.hid X2
  have HC2 := Go.Lib.hid C2
  have HSK := Go.Lib.hid (eshrink_any px cf L cf _ (by omega) (by omega) X2 HN.out S2)
  clear hx1 hb X2 S2 C2
  go_wp2_with fail
  refine HSK.out.mono ?_
  rintro e w3 ⟨vo, O3, rfl, hs3, hc3, hko, hoo⟩
  have HS3 := Go.Lib.hid hs3
  have HC3 := Go.Lib.hid hc3
  have HKO := Go.Lib.hid hko
  clear hs3 hc3 hko hoo
  go_wp2_with fail
  go_ret
  exact ⟨_, _, rfl, HKO.out, ⟨ps, O3, HC3.out.blk HN.out HX2.out, HS3.out, HC3.out.not HX2.out.lt HN.out, rfl⟩, HC2.out.trans (chg_up px HC3.out)⟩
end
end Go.Proofs.Ytlakojncjldpbaa
