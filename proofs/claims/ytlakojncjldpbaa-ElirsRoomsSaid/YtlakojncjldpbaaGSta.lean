/- A store, told by its queues alone: Move, Remove, New. -/
import Derived.Test.YtlakojncjldpbaaGPush
namespace Go.Proofs.Ytlakojncjldpbaa
open Go.RowKit Hop
set_option linter.unusedVariables false
set_option linter.unusedSimpArgs false
set_option maxRecDepth 100000
section
variable {ps : Nat} {O : Nat → Prop} {Q : List (List En)} {p : Nat} {L : Hop.Loc} {s : St} {q : List (List Int)}
set_option maxHeartbeats 800000 in
theorem lmove_any (u t : Nat) (i : Int) (w : World) (hu : u < q.length) (hi : i ∈ q.getD u []) (ht : t < q.length) (R : SRep w L s) (G : Good s q p) :
    Calls Try.prog 175 #[P0 L.pl, .int .i64 t, .int .i32 i] w fun e w' => e = .returned (.bool true) ∧ ∃ s' q', Fr L.has w w' ∧ SRep w' L s' ∧ Good s' q' p ∧ vw s'.slots q' = ins (del (vw s.slots q) (ndT s.slots i).key) t (en s.slots i) := by
  have hll := G.gl.len
  have h8 := G.q8
  have hb1 := G.b1
  have hb4 := G.b4
  obtain ⟨o1, o2, o3, o4, o5, o6⟩ := G.outOf hu hi
  obtain ⟨m1, m2, m3, m4, m5, G', gv⟩ := G.move hu hi ht
  have lo : (outS s.slots i).length < 1000000 := by rw [outS_length]; omega
  have hls : (st s.lists u (outL s.slots (lg s.lists u) i)).length = s.lists.length := st_length _ _ _
  have HR := Go.Lib.hid (remove_yes L.pl L.pa L.bl L.ba s.slots s.lists L.fv (.int .i64 s.next) (.int .i64 s.live) u i w (by omega) (by omega) (by omega) R.lrep o1 o2 o3 o4 ⟨o5, o6⟩)
  have HP := Go.Lib.hid (fun w h => pushfront_yes L.pl L.pa L.bl L.ba (outS s.slots i) (st s.lists u (outL s.slots (lg s.lists u) i)) L.fv (.int .i64 s.next) (.int .i64 s.live) t i w lo (by omega) (by omega) h m1 m2 m3 ⟨m4, m5⟩)
  have HG := Go.Lib.hid G'
  have HV := Go.Lib.hid gv
  have HRR := Go.Lib.hid R
  have hl := Go.Lib.hid (list_yes L.pl L.pa L.bl L.ba s.slots s.lists L.fv (.int .i64 s.next) (.int .i64 s.live) t w (by omega) (by omega) R.lrep)
  clear G G' gv R hll h8 hb1 hb4 o1 o2 o3 o4 o5 o6 m1 m2 m3 m4 m5 lo hls
  go_enter Try.func175, Try.ntmps175
  go_wp2_with fail
  refine hl.out.mono ?_
  rintro e w1 ⟨rfl, rfl⟩
  go_wp2_with fail
  refine HR.out.mono ?_
  rintro e w1 ⟨rfl, hf1, H1⟩
  have HF1 := Go.Lib.hid hf1
  have HH1 := Go.Lib.hid H1
  clear hf1 H1
  go_wp2_with fail
  refine (HP.out _ HH1.out).mono ?_
  rintro e w2 ⟨rfl, hf2, H2⟩
  have R1 := HRR.out.relist HF1.out HH1.out
  have R2 := R1.relist hf2 H2
  have F : Fr L.has w w2 := (HF1.out.trans hf2 (fun _ h => .inl h)).mono (by
    rintro j (rfl | rfl)
    · simp [Hop.Loc.has]
    · simp [Hop.Loc.has])
  have HF := Go.Lib.hid F
  have HR2 := Go.Lib.hid R2
  clear F R2 R1 hf2 H2
  go_wp2_with fail
  go_ret
  exact ⟨rfl, _, _, HF.out, HR2.out, HG.out, HV.out⟩
set_option maxHeartbeats 800000 in
theorem move_has (t : Nat) (k : Int) (w : World) (hk0 : 0 ≤ k) (hk1 : k < 18446744073709551616) (ht : t < Q.length) (hk : hasK Q k) (H : Sta w ps O Q p) :
    Calls Try.prog 119 #[P0 ps, .int .i64 t, .int .u64 k] w fun e w' => e = .returned (.bool true) ∧ ∃ e0, (∃ l ∈ Q, e0 ∈ l) ∧ e0.key = k ∧ ∃ O', Sta w' ps O' (ins (del Q k) t e0) p ∧ Chg O O' w w' := by
  obtain ⟨L, s, q, rfl, rfl, R, G, rfl⟩ := H
  have ht' : t < q.length := by unfold vw at ht; rwa [List.length_map] at ht
  obtain ⟨j, hj, hjk⟩ := (hasK_vw G k).1 hk
  have HN := Go.Lib.hid (node_any k w hk0 hk1 R G)
  have HRR := Go.Lib.hid R
  have HG := Go.Lib.hid G
  have HJ := Go.Lib.hid hj
  have HJK := Go.Lib.hid hjk
  clear G R hk hj hjk ht
  go_enter Try.func119, Try.ntmps119
  go_wp2_with fail
  refine HN.out.mono ?_
  rintro e w1 ⟨i, rfl, hb, hN⟩
  obtain ⟨h1, h2⟩ : isT s.slots i = true ∧ (ndT s.slots i).key = k := by
    rcases hN with h | ⟨_, h⟩
    · exact h
    · exact absurd HJK.out (h j HJ.out)
  obtain ⟨u, hu, hi⟩ := (HG.out.tk i).1 h1
  have R1 := HRR.out.keep hb
  have c0 := R1.hs.cell 0
  simp only [List.getElem?_cons_zero, List.getElem?_cons_succ] at c0
  have hi0 : i ≠ 0 := isT_ne0 h1
  have HB := Go.Lib.hid hb
  have H2 := Go.Lib.hid h2
  have LM := Go.Lib.hid (lmove_any u t i w1 hu hi ht' R1 HG.out)
  have HI : Hid (∃ l ∈ vw s.slots q, en s.slots i ∈ l) := by
    obtain ⟨l, hl, hl'⟩ := inQ_mem.1 ((HG.out.tk i).1 h1)
    exact ⟨_, List.mem_map_of_mem hl, List.mem_map_of_mem hl'⟩
  clear hb hN h1 h2 hi R1
  go_wp2_with fail
  refine LM.out.mono ?_
  rintro e w2 ⟨rfl, s', q', hf, R2, G2, hv⟩
  rw [H2.out] at hv
  have HF := Go.Lib.hid hf
  have HR2 := Go.Lib.hid R2
  have HG2 := Go.Lib.hid G2
  have HV := Go.Lib.hid hv
  clear hf R2 G2 hv
  go_wp2_with fail
  go_ret
  exact ⟨rfl, en s.slots i, HI.out, H2.out, L.has, ⟨L, s', q', rfl, rfl, HR2.out, HG2.out, HV.out⟩, (Chg.of_below HB.out).trans ⟨HF.out, fun _ h => .inl h⟩⟩
set_option maxHeartbeats 800000 in
theorem move_not (t : Nat) (k : Int) (w : World) (hk0 : 0 ≤ k) (hk1 : k < 18446744073709551616) (hk : ¬ hasK Q k) (H : Sta w ps O Q p) :
    Calls Try.prog 119 #[P0 ps, .int .i64 t, .int .u64 k] w fun e w' => e = .returned (.bool false) ∧ Below w.heap.size w w' := by
  obtain ⟨L, s, q, rfl, rfl, R, G, rfl⟩ := H
  have hno' : ∀ j, isT s.slots j = true → (ndT s.slots j).key ≠ k := fun j hj hjk => hk ((hasK_vw G k).2 ⟨j, hj, hjk⟩)
  have HN := Go.Lib.hid (node_any k w hk0 hk1 R G)
  have HNO := Go.Lib.hid hno'
  clear G R hk hno'
  go_enter Try.func119, Try.ntmps119
  go_wp2_with fail
  refine HN.out.mono ?_
  rintro e w1 ⟨i, rfl, hb, hN⟩
  have hi0 : i = 0 := by
    rcases hN with ⟨h1, h2⟩ | ⟨h1, _⟩
    · exact absurd h2 (HNO.out _ h1)
    · exact h1
  subst hi0
  clear hN
  go_wp2_with fail
  go_ret
  exact ⟨rfl, hb⟩
set_option maxHeartbeats 800000 in
theorem sremove_has (k : Int) (w : World) (hk0 : 0 ≤ k) (hk1 : k < 18446744073709551616) (hk : hasK Q k) (H : Sta w ps O Q p) :
    Calls Try.prog 120 #[P0 ps, .int .u64 k] w fun e w' => e = .returned (.bool true) ∧ ∃ O', Sta w' ps O' (del Q k) p ∧ Chg O O' w w' := by
  obtain ⟨L, s, q, rfl, rfl, R, G, rfl⟩ := H
  obtain ⟨j, hj, hjk⟩ := (hasK_vw G k).1 hk
  have HN := Go.Lib.hid (node_any k w hk0 hk1 R G)
  have HRR := Go.Lib.hid R
  have HG := Go.Lib.hid G
  have HJ := Go.Lib.hid hj
  have HJK := Go.Lib.hid hjk
  clear G R hk hj hjk
  go_enter Try.func120, Try.ntmps120
  go_wp2_with fail
  refine HN.out.mono ?_
  rintro e w1 ⟨i, rfl, hb, hN⟩
  obtain ⟨h1, h2⟩ : isT s.slots i = true ∧ (ndT s.slots i).key = k := by
    rcases hN with h | ⟨_, h⟩
    · exact h
    · exact absurd HJK.out (h j HJ.out)
  obtain ⟨u, hu, hi⟩ := (HG.out.tk i).1 h1
  have R1 := HRR.out.keep hb
  have c0 := R1.hs.cell 0
  simp only [List.getElem?_cons_zero, List.getElem?_cons_succ] at c0
  have hi0 : i ≠ 0 := isT_ne0 h1
  have hll := HG.out.gl.len
  have h8 := HG.out.q8
  have hb1 := HG.out.b1
  have hb2 := HG.out.b2
  have hb4 := HG.out.b4
  obtain ⟨o1, o2, o3, o4, o5, o6⟩ := HG.out.outOf hu hi
  have HRM := Go.Lib.hid (remove_yes L.pl L.pa L.bl L.ba s.slots s.lists L.fv (.int .i64 s.next) (.int .i64 s.live) u i w1 (by omega) (by omega) (by omega) R1.lrep o1 o2 o3 o4 ⟨o5, o6⟩)
  have HB := Go.Lib.hid hb
  have H2 := Go.Lib.hid h2
  have HI := Go.Lib.hid hi
  have H1 := Go.Lib.hid h1
  have HR1 := Go.Lib.hid R1
  have lo : (outS s.slots i).length < 1000000 := by rw [outS_length]; omega
  have htl : s.tab.length < 500000 := by omega
  clear hb hN h1 h2 hi R1 o1 o2 o3 o4 o5 o6 hb1 hb2 hb4 h8 hll
  go_wp2_with fail
  refine HRM.out.mono ?_
  rintro e w2 ⟨rfl, hf2, L2⟩
  have R2 := HR1.out.relist hf2 L2
  have HF2 := Go.Lib.hid hf2
  have HR2 := Go.Lib.hid R2
  have c1 := R2.hs.cell 1
  simp only [List.getElem?_cons_zero, List.getElem?_cons_succ] at c1
  have hmm : s.many = cnt s.tab := by rw [HG.out.mn, HG.out.cn]
  have HMM := Go.Lib.hid hmm
  have DY := Go.Lib.hid (fun w h => del_yes L.pt L.bt s.tab k i w hk0 hk1 HG.out.p2 htl HG.out.ti ((HG.out.tin k i).2 ⟨H1.out, H2.out⟩) HG.out.fit HG.out.keys h)
  have hit : isT (outS s.slots i) i = true := by
    obtain ⟨_, _, _, hT1, _⟩ := HG.out.gl.take hu HI.out
    rw [hT1]; exact H1.out
  have hlv : 0 < s.live ∧ s.live < 1000000 ∧ s.freed.length < 1000000 := by
    have a := HG.out.lv
    have b := HG.out.b3
    have c := HG.out.b4
    have d := HG.out.ai.cn
    have e := HG.out.ai.hi
    have f := HG.out.b1
    have g := total_take HG.out.gl hu HI.out
    omega
  obtain ⟨v1, v2, v3⟩ := hlv
  have HFR := Go.Lib.hid (free_yes L.pa L.ba (outS s.slots i) s.next s.live L.fv s.freed i w2 lo hit ⟨v1, v2⟩ R2.fr v3 R2.ha R2.ba)
  clear hf2 L2 R2 c0 hmm hit v1 v2 v3 lo htl
  go_wp2_with fail
  refine HFR.out.mono ?_
  rintro e w3 ⟨rfl, hf3, fv', ha3, hb3, hfr3, hown⟩
  have q3 := fun (b : Nat) (cs : List Value) (T : Nat) (h : Blk w2 b cs T) (h1 : T ≠ 189) (h2 : T ≠ 201) (h3 : T ≠ 21) => hf3.blk (x := b) (cs := cs) (T := T) (by
    rintro (e | e | e)
    · exact h.ne HR2.out.ha h1 e
    · exact h.ne HR2.out.ba h2 e
    · exact frv_ne HR2.out.fr h (Ne.symm h3) b e rfl) h
  have hs3 := q3 _ _ _ HR2.out.hs (by decide) (by decide) (by decide)
  have ht3 := q3 _ _ _ HR2.out.ht (by decide) (by decide) (by decide)
  have bt3 := q3 _ _ _ HR2.out.bt (by decide) (by decide) (by decide)
  have hl3 := q3 _ _ _ HR2.out.hl (by decide) (by decide) (by decide)
  have bl3 := q3 _ _ _ HR2.out.bl (by decide) (by decide) (by decide)
  have c2 := hs3.cell 2
  simp only [List.getElem?_cons_zero, List.getElem?_cons_succ] at c2
  have HF3 := Go.Lib.hid hf3
  have HOW := Go.Lib.hid hown
  have T3 : TRep w3 L.pt L.bt s.tab (cnt s.tab) := ⟨by rw [← HMM.out]; exact ht3, bt3⟩
  have HT3 := Go.Lib.hid T3
  have HS3 := Go.Lib.hid hs3
  have HL3 := Go.Lib.hid hl3
  have HBL3 := Go.Lib.hid bl3
  have HA3 := Go.Lib.hid ha3
  have HB3 := Go.Lib.hid hb3
  have HFV3 := Go.Lib.hid hfr3
  clear q3 hs3 ht3 bt3 hl3 bl3 ha3 hb3 hfr3 hf3 hown T3 c1
  go_wp2_with fail
  refine (DY.out _ HT3.out).mono ?_
  rintro e w4 ⟨rfl, t', hf4, T4, D⟩
  obtain ⟨_, _, _, _, G', gv⟩ := HG.out.remove hu HI.out (tab1 := t') (by rw [H2.out]; exact D)
  rw [H2.out] at gv
  have q4 := fun (b : Nat) (cs : List Value) (T : Nat) (h : Blk w3 b cs T) (h1 : T ≠ 195) (h2 : T ≠ 213) => hf4.blk (x := b) (cs := cs) (T := T) (by
    rintro (e | e)
    · exact h.ne HT3.out.ht h1 e
    · exact h.ne HT3.out.bt h2 e) h
  have fr4 : Frv w4 fv' (s.freed ++ [i]) := HFV3.out.frame hf4 (by
    rintro k hk (e | e)
    · exact frv_ne HFV3.out HT3.out.ht (by decide) k hk e
    · exact frv_ne HFV3.out HT3.out.bt (by decide) k hk e)
  have R4 : SRep w4 { L with fv := fv' } ⟨st (outS s.slots i) i Sl.z, s.freed ++ [i], s.next, s.live - 1, st s.lists u (outL s.slots (lg s.lists u) i), t', s.many - 1, s.queues⟩ :=
    ⟨q4 _ _ _ HS3.out (by decide) (by decide), q4 _ _ _ HL3.out (by decide) (by decide), by
      have h := q4 _ _ _ HA3.out (by decide) (by decide)
      rw [← st_length (outS s.slots i) i Sl.z] at h
      exact h, by rw [HMM.out]; exact T4.ht, q4 _ _ _ HBL3.out (by decide) (by decide), q4 _ _ _ HB3.out (by decide) (by decide), T4.bt, fr4⟩
  have sz1 := HB.out.size
  have sz2 := HF2.out.size
  have F2 : Fr L.has w w2 := (Fr.of_below HB.out).trans (own := L.has) HF2.out (by
    rintro j (rfl | rfl)
    · exact .inl (by simp [Hop.Loc.has])
    · exact .inl (by simp [Hop.Loc.has]))
  have F3 : Fr L.has w w3 := F2.trans HF3.out (by
    rintro j (rfl | rfl | h)
    · exact .inl (by simp [Hop.Loc.has])
    · exact .inl (by simp [Hop.Loc.has])
    · exact .inl (by simp [Hop.Loc.has, h]))
  have F4 : Fr L.has w w4 := F3.trans hf4 (by
    rintro j (rfl | rfl)
    · exact .inl (by simp [Hop.Loc.has])
    · exact .inl (by simp [Hop.Loc.has]))
  have C : Chg L.has ({ L with fv := fv' } : Hop.Loc).has w w4 := ⟨F4, by
    rintro j (h | h | h | h | h | h | h | h)
    · exact .inl (.inl h)
    · exact .inl (.inr (.inl h))
    · exact .inl (.inr (.inr (.inl h)))
    · exact .inl (.inr (.inr (.inr (.inl h))))
    · exact .inl (.inr (.inr (.inr (.inr (.inl h)))))
    · exact .inl (.inr (.inr (.inr (.inr (.inr (.inl h))))))
    · exact .inl (.inr (.inr (.inr (.inr (.inr (.inr (.inl h)))))))
    · rcases HOW.out j h with h' | h'
      · exact .inl (.inr (.inr (.inr (.inr (.inr (.inr (.inr h')))))))
      · exact .inr (by omega)⟩
  have HC := Go.Lib.hid C
  have HR4 := Go.Lib.hid R4
  have HG4 := Go.Lib.hid G'
  have HV4 := Go.Lib.hid gv
  clear C F4 F3 F2 R4 fr4 q4 G' gv hf4 T4 D sz1 sz2 c2
  go_wp2_with fail
  go_ret
  exact ⟨rfl, _, ⟨{ L with fv := fv' }, _, _, rfl, rfl, HR4.out, HG4.out, HV4.out⟩, HC.out⟩
set_option maxHeartbeats 800000 in
theorem sremove_not (k : Int) (w : World) (hk0 : 0 ≤ k) (hk1 : k < 18446744073709551616) (hk : ¬ hasK Q k) (H : Sta w ps O Q p) :
    Calls Try.prog 120 #[P0 ps, .int .u64 k] w fun e w' => e = .returned (.bool false) ∧ Below w.heap.size w w' := by
  obtain ⟨L, s, q, rfl, rfl, R, G, rfl⟩ := H
  have hno' : ∀ j, isT s.slots j = true → (ndT s.slots j).key ≠ k := fun j hj hjk => hk ((hasK_vw G k).2 ⟨j, hj, hjk⟩)
  have HN := Go.Lib.hid (node_any k w hk0 hk1 R G)
  have HNO := Go.Lib.hid hno'
  clear G R hk hno'
  go_enter Try.func120, Try.ntmps120
  go_wp2_with fail
  refine HN.out.mono ?_
  rintro e w1 ⟨i, rfl, hb, hN⟩
  have hi0 : i = 0 := by
    rcases hN with ⟨h1, h2⟩ | ⟨h1, _⟩
    · exact absurd h2 (HNO.out _ h1)
    · exact h1
  subst hi0
  clear hN
  go_wp2_with fail
  go_ret
  exact ⟨rfl, hb⟩
end
end Go.Proofs.Ytlakojncjldpbaa

namespace Go.Proofs.Ytlakojncjldpbaa
open Go.RowKit Hop
set_option linter.unusedVariables false
set_option linter.unusedSimpArgs false
set_option maxRecDepth 100000
theorem isT_nil (n : Nat) (j : Int) : isT (List.replicate n Sl.z) j = false := by
  have := isT_more [] n j
  rw [List.nil_append] at this
  rw [this]
  unfold isT
  by_cases h0 : 0 < j
  · have : ¬ j < (([] : List Sl).length : Int) := by simp; omega
    simp only [this]; simp
  · simp [h0]
theorem getD_nil (n t : Nat) : (List.replicate n ([] : List Int)).getD t [] = [] := by
  rw [List.getD_eq_getElem?_getD, List.getElem?_replicate]
  split <;> rfl
theorem total_nil (n : Nat) : total (List.replicate n []) = 0 := by unfold total; simp
theorem Good.new (n : Nat) (h1 : 1 ≤ n) (h8 : n ≤ 8) : Good ⟨List.replicate 8 Sl.z, [], 1, 0, List.replicate n Li.z, List.replicate 8 Ts.z, 0, n⟩ (List.replicate n []) 0 := by
  obtain ⟨e1, e2, e3⟩ := Ti.empty (hm := hmF) 8
  refine ⟨⟨by simp, ?_, ?_, ?_⟩, by simp, by simp; omega, ?_, ⟨Int.le_refl 1, by simp, ?_, by simp, by simp, by rw [total_nil]; rfl⟩, by rw [total_nil]; rfl, e1, ⟨3, by omega, by simp⟩, by rw [total_nil]; exact e3, by rw [total_nil]; rfl, ?_, ?_, ?_, by simp, by simp, by rw [total_nil]; omega, by omega, by simp⟩
  · intro t ht; rw [getD_nil]; trivial
  · intro t ht; rw [getD_nil]; simp
  · intro t ht
    rw [getD_nil]
    rw [List.length_replicate] at ht
    unfold lg gt
    rw [List.getD_eq_getElem?_getD, List.getElem?_replicate]
    rw [if_pos (by omega)]
    rfl
  · intro i
    rw [isT_nil]
    constructor
    · intro h; cases h
    · rintro ⟨t, ht, h⟩
      rw [getD_nil] at h
      cases h
  · intro i h
    rw [isT_nil] at h
    cases h
  · show 4 * cnt (List.replicate 8 Ts.z) ≤ _
    rw [e3]; simp
  · intro k v
    rw [isT_nil]
    exact ⟨fun h => absurd h (e2 k v), fun h => by simp at h⟩
  · intro i h
    rw [isT_nil] at h
    cases h
theorem vw_new (S : List Sl) (n : Nat) : vw S (List.replicate n []) = List.replicate n [] := by unfold vw; simp
set_option maxHeartbeats 800000 in
theorem new_sta (n : Nat) (w : World) (h1 : 1 ≤ n) (h8 : n ≤ 8) :
    Calls Try.prog 111 #[.int .i64 n] w fun e w' => ∃ ps, e = .returned (P0 ps) ∧ w.heap.size ≤ ps ∧ ∃ O, Sta w' ps O (List.replicate n []) 0 ∧ (∀ k, O k → w.heap.size ≤ k) ∧ Below w.heap.size w w' := by
  have hm1 : max (n : Int) 1 = n := by omega
  have hm2 : min (n : Int) 8 = n := by omega
  go_enter Try.func111, Try.ntmps111
  go_wp2_with fail
  refine (anew_any _).mono ?_
  rintro e w1 ⟨pa, ba, g1, g2, rfl, hb1, ha1, hba1⟩
  have HB1 := Go.Lib.hid hb1
  have HA1 := Go.Lib.hid ha1
  have HBA1 := Go.Lib.hid hba1
  clear hb1 ha1 hba1
  go_wp2_with fail
  refine (lnew_any pa n _ h1 h8).mono ?_
  rintro e w2 ⟨pl, bl, g3, g4, rfl, hb2, hl2, hbl2⟩
  have HB2 := Go.Lib.hid hb2
  have HL2 := Go.Lib.hid hl2
  have HBL2 := Go.Lib.hid hbl2
  clear hb2 hl2 hbl2
  go_wp2_with fail
  refine (tnew_any _).mono ?_
  rintro e w3 ⟨pt, bt, g5, g6, rfl, hb3, ht3⟩
  have HB3 := Go.Lib.hid hb3
  have HT3 := Go.Lib.hid ht3
  clear hb3 ht3
  go_wp2_with fail
  go_ret
  have sz1 := HB1.out.size
  have sz2 := HB2.out.size
  have sz3 := HB3.out.size
  have B12 : Below w.heap.size w w2 := HB1.out.trans (HB2.out.mono sz1)
  have B13 : Below w.heap.size w w3 := B12.trans (HB3.out.mono (by omega))
  have eq : Value.int .i64 (min (max (n : Int) 1) 8) = .int .i64 n := by rw [hm1, hm2]
  refine ⟨_, rfl, by omega, _, ⟨⟨w3.heap.size, pl, pa, pt, bl, ba, bt, .slice none 0 0⟩, ⟨List.replicate 8 Sl.z, [], 1, 0, List.replicate n Li.z, List.replicate 8 Ts.z, 0, n⟩, List.replicate n [], rfl, rfl, ⟨?_, ?_, ?_, ?_, ?_, ?_, ?_, Row.nil _ _ _⟩, Good.new n h1 h8, vw_new _ _⟩, ?_, B13.alloc (by omega) _⟩
  · first | exact Blk.new0 w3 [P0 pl, P0 pa, P0 pt, .int .i64 n] 160 | (rw [← eq]; exact Blk.new0 w3 [P0 pl, P0 pa, P0 pt, .int .i64 (min (max (n : Int) 1) 8)] 160)
  · exact (HL2.out.keep HB3.out).alloc _
  · exact ((HA1.out.keep HB2.out).keep HB3.out).alloc _
  · exact HT3.out.ht.alloc _
  · exact (HBL2.out.keep HB3.out).alloc _
  · exact ((HBA1.out.keep HB2.out).keep HB3.out).alloc _
  · exact HT3.out.bt.alloc _
  · rintro k (h | h | h | h | h | h | h | h)
    · rw [h]; show _ ≤ w3.heap.size; omega
    · rw [h]; show _ ≤ pl; omega
    · rw [h]; show _ ≤ pa; omega
    · rw [h]; show _ ≤ pt; omega
    · rw [h]; show _ ≤ bl; omega
    · rw [h]; show _ ≤ ba; omega
    · rw [h]; show _ ≤ bt; omega
    · cases h
end Go.Proofs.Ytlakojncjldpbaa

namespace Go.Proofs.Ytlakojncjldpbaa
open Go.RowKit Hop
set_option linter.unusedVariables false
set_option linter.unusedSimpArgs false
set_option maxRecDepth 100000
theorem below_fr {own : Nat → Prop} {B : Nat} {a b c : World} (h : Below B a b) (k : Fr own b c) (hB : B ≤ a.heap.size) (hs : ∀ i, own i → B ≤ i) : Below B a c :=
  ⟨k.os.trans h.os, k.tape.trans h.tape, k.output.trans h.output, Nat.le_trans h.size k.size, fun i hi => (k.block i (by have := h.size; omega) (fun ho => by have := hs i ho; omega)).trans (h.block i hi)⟩
theorem u64_info : (Try.prog.info? 31).map (fun i => (i.zero, i.size, i.bytes)) = some (some (.int .u64 0), 1, 8) := by kernel_rfl
theorem row_form {w : World} {E k : Nat} {v : Value} {n : Nat} {xs : List Value} (h : Row w E k v n xs) : ∃ a cap, v = .slice a n cap := by
  rcases h.2 with ⟨h1, rfl⟩ | ⟨g, cap, cs, h1, _⟩
  · exact ⟨_, _, h1⟩
  · exact ⟨_, _, h1⟩
theorem row_cell {w : World} {E : Nat} {a : Option Addr} {n cap : Nat} {xs : List Value} (h : Row w E 1 (.slice a n cap) n xs) {j : Nat} (hj : j < n) : ∃ g, a = some ⟨g, 0, none⟩ ∧ n ≤ cap ∧ cap ≤ maxLen ∧ w.cell? ⟨g, j, none⟩ = xs[j]? := by
  rcases h.2 with ⟨_, h2⟩ | ⟨g, cap', cs, h1, h2, h3, h4, h5, h6⟩
  · omega
  · injection h1 with e1 e2 e3
    subst e1; subst e3
    refine ⟨g, rfl, h3, h4, ?_⟩
    rw [h2.cell, ← h6, List.getElem?_take, if_pos (by omega)]
section
variable {ps : Nat} {O : Nat → Prop} {Q : List (List En)} {p : Nat} {L : Hop.Loc} {s : St} {q : List (List Int)}
set_option maxHeartbeats 1600000 in
theorem skeys_any (t : Nat) (w : World) (ht : t < q.length) (R : SRep w L s) (G : Good s q p) :
    Calls Try.prog 116 #[P0 L.ps, .int .i64 t] w fun e w' => ∃ v, e = .returned v ∧ Row w' 31 1 v (q.getD t []).length ((q.getD t []).map (fun i => Value.int .u64 (ndT s.slots i).key)) ∧ (∀ b, v.ownBlock = some b → w.heap.size ≤ b) ∧ Below w.heap.size w w' := by
  have hll := G.gl.len
  have h8 := G.q8
  have hb1 := G.b1
  have hb3 := G.b3
  have hb4 := G.b4
  have hlt : (q.getD t []).length ≤ total q := by
    have := sum_set q t [] ht
    simp at this ⊢
    omega
  have hd := G.gl.hd t ht
  have HAL := Go.Lib.hid (all_any L.pl L.pa L.bl L.ba s.slots s.lists L.fv (.int .i64 s.next) (.int .i64 s.live) t (q.getD t []) w (by omega) (by omega) (by omega) (by omega) (G.gl.seg t ht) (G.gl.nd t ht) (by rw [hd]) (by omega) R.lrep)
  have hmem : ∀ x ∈ q.getD t [], x ≤ 2147483647 := fun x hx => by
    have := isT_lt (G.gl.tag ht hx).1
    omega
  have HM := Go.Lib.hid hmem
  have hsl : s.slots.length < 1000000 := by omega
  have hcl : (q.getD t []).length < 100000 := by omega
  have HRR := Go.Lib.hid R
  have c0 := R.hs.cell 0
  simp only [List.getElem?_cons_zero, List.getElem?_cons_succ] at c0
  clear hmem hd hlt hb4 hb3 hb1 h8 hll G R
  generalize q.getD t [] = c at *
  go_enter Try.func116, Try.ntmps116
  go_wp2_with fail
  refine HAL.out.mono ?_
  rintro e w1 ⟨v0, rfl, hrow, hown, hb⟩
  obtain ⟨a0, cap0, rfl⟩ := row_form hrow
  have HROW := Go.Lib.hid hrow
  have HOWN := Go.Lib.hid hown
  have HB := Go.Lib.hid hb
  have sz := hb.size
  clear hrow hown hb
  go_wp2_with fail
  go_loopw [5, 18] (fun v i wr => ∃ k : Nat, k ≤ c.length ∧ i = .int .i64 k ∧ Row wr 31 1 v k ((c.take k).map (fun i => Value.int .u64 (ndT s.slots i).key)) ∧ (∀ b, v.ownBlock = some b → w1.heap.size ≤ b) ∧ Below w1.heap.size w1 wr) (fun _ i _ => c.length - (intOf i).toNat)
  case atStart => exact ⟨0, by omega, rfl, Row.nil _ _ _, fun b hb => (by cases hb), Below.refl _ _⟩
  case round =>
    obtain ⟨k, hk, rfl, hr, ho, hbr⟩ := hrel
    by_cases hlt : k < c.length
    · obtain ⟨g, rfl, hc1, hc2, hcell⟩ := row_cell (HROW.out.keep hbr) hlt
      have hx : ((c.map (Value.int .i32))[k]? : Option Value) = some (.int .i32 c[k]) := by simp [hlt]
      rw [hx] at hcell
      have hle := HM.out c[k] (List.getElem_mem hlt)
      have R1 := (HRR.out.keep HB.out).keep hbr
      have c1 := R1.hs.cell 1
      simp only [List.getElem?_cons_zero, List.getElem?_cons_succ] at c1
      have HAT := Go.Lib.hid (at_any L.pa L.ba s.slots L.fv (.int .i64 s.next) (.int .i64 s.live) c[k] wr hle hsl R1.ha R1.ba)
      have htk : c.take (k + 1) = c.take k ++ [c[k]] := by rw [List.take_add_one, List.getElem?_eq_getElem hlt]; rfl
      have HTK := Go.Lib.hid htk
      have HR := Go.Lib.hid hr
      have HO := Go.Lib.hid ho
      have HBR := Go.Lib.hid hbr
      have gl := (HROW.out.keep hbr).lt (b := g) rfl
      clear hx hr ho hbr R1 htk
      generalize c[k] = x at *
      have hkey : ∀ n : Nd, n = ndT s.slots x → (ndT s.slots x).key = n.key := fun n e => by rw [e]
      obtain ⟨nn, hnn⟩ : ∃ nn, nn = ndT s.slots x := ⟨_, rfl⟩
      have HKK := Go.Lib.hid (hkey _ hnn)
      rw [← hnn] at HAT
      clear hnn hkey
      obtain ⟨nk, nv, nfl, ntg, npv, nnt⟩ := nn
      simp only [encN] at HAT
      have nf := node_key
      go_wp2_with fail
      refine HAT.out.mono ?_
      rintro e w2 ⟨rfl, hb2⟩
      have HB2 := Go.Lib.hid hb2
      clear hb2
      go_wp2_with (at_builtin; refine wpList_append_row _ rfl (.tmp 22) (.tmp 30) 26 rfl 31 (.int .u64 0) 1 8 Try.underlying26 u64_info rfl (by decide) _ _ _ rfl ((HR.out.keep HB2.out).keep ((Below.refl _ _).alloc (Nat.le_refl _) _)) ⟨w2.heap.size, 0, none⟩ 1 1 [.int .u64 nk] rfl (by decide) rfl ?c1 ?c2 ?b1 ?b2 ?next)
      case c1 => intro j u hj; match j, hj with | 0, hj => simp at hj; subst hj; simp [Addr.add]
      case c2 => intro u hu; simp at hu; subst hu; rfl
      case b1 => unfold maxLen; omega
      case b2 => omega
      case next =>
        intro g' cap' w3 hr3 hf3 hg3
        have B2 := HBR.out.trans (HB2.out.mono HBR.out.size)
        have sz2 := HB2.out.size
        have sz3 := HBR.out.size
        have B3 := B2.alloc B2.size (.cells #[.int .u64 nk] 31)
        have B4 := below_fr B3 hf3 (Nat.le_refl _) HO.out
        have e1 : ((c.take (k + 1)).map (fun i => Value.int .u64 (ndT s.slots i).key)) = (c.take k).map (fun i => Value.int .u64 (ndT s.slots i).key) ++ [.int .u64 nk] := by
          rw [HTK.out, List.map_append, List.map_singleton, HKK.out]
        have HR3 : Hid (Row w3 31 1 (.slice (some ⟨g', 0, none⟩) (k + 1) cap') (k + 1) ((c.take (k + 1)).map (fun i => Value.int .u64 (ndT s.slots i).key))) := by
          rw [e1, List.map_take]; exact hr3
        have HB4 := Go.Lib.hid B4
        have HO3 : Hid (∀ b, (Value.slice (some ⟨g', 0, none⟩) (k + 1) cap').ownBlock = some b → w1.heap.size ≤ b) := by
          intro b hb
          have e : g' = b := by simpa [Value.ownBlock] using hb
          subst e
          rcases hg3 with h | h
          · exact HO.out _ h
          · omega
        clear B4 B3 B2 hr3 hf3 hg3 e1
        go_wp2_with fail
        go_roundw
        case rel => exact ⟨k + 1, by omega, by go_num, HR3.out, HO3.out, HB4.out⟩
        case measure => simp [intOf]; omega
    · have e : k = c.length := by omega
      subst e
      go_wp2_with fail
      go_ret
      refine ⟨_, rfl, ?_, fun b hb => ?_, HB.out.trans (hbr.mono sz)⟩
      · rw [List.take_length] at hr
        exact hr
      · have := ho b hb; omega
theorem keys_sta (t : Nat) (w : World) (ht : t < Q.length) (H : Sta w ps O Q p) :
    Calls Try.prog 116 #[P0 ps, .int .i64 t] w fun e w' => ∃ v, e = .returned v ∧ Row w' 31 1 v (Q.getD t []).length ((Q.getD t []).map (fun e => Value.int .u64 e.key)) ∧ (∀ b, v.ownBlock = some b → w.heap.size ≤ b) ∧ Below w.heap.size w w' := by
  obtain ⟨L, s, q, rfl, rfl, R, G, rfl⟩ := H
  have ht' : t < q.length := by unfold vw at ht; rwa [List.length_map] at ht
  have h := skeys_any t w ht' R G
  rw [vw_getD, List.length_map, List.map_map]
  exact h
end
end Go.Proofs.Ytlakojncjldpbaa
