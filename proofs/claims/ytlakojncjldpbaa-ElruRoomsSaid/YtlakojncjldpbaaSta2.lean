/- A store, told by its queues alone: Move, Remove, New. -/
import Derived.Test.YtlakojncjldpbaaSta
namespace Go.Proofs.Ytlakojncjldpbaa
open Go.RowKit Hop
set_option linter.unusedVariables false
set_option linter.unusedSimpArgs false
set_option maxRecDepth 100000
section
variable {ps : Nat} {O : Nat → Prop} {Q : List (List En)} {p : Nat} {L : Hop.Loc} {s : St} {q : List (List Int)}
set_option maxHeartbeats 800000 in
theorem lmove_any (u t : Nat) (i : Int) (w : World) (hu : u < q.length) (hi : i ∈ q.getD u []) (ht : t < q.length) (R : SRep w L s) (G : Good s q p) :
    Calls Try.prog 175 #[P0 L.pl, .int .i64 t, .int .i32 i] w fun e w' => e = .returned (.bool true) ∧ ∃ s' q', Fr L.has w w' ∧ SRep w' L s' ∧ Good s' q' p ∧ vw s'.slots q' = ins (del (vw s.slots q) (ndT s.slots i).key) t (en s.slots i) := by
  have hll := G.gl.len
  have h8 := G.q8
  have hb1 := G.b1
  have hb4 := G.b4
  obtain ⟨o1, o2, o3, o4, o5, o6⟩ := G.outOf hu hi
  obtain ⟨m1, m2, m3, m4, m5, G', gv⟩ := G.move hu hi ht
  have lo : (outS s.slots i).length < 1000000 := by rw [outS_length]; omega
  have hls : (st s.lists u (outL s.slots (lg s.lists u) i)).length = s.lists.length := st_length _ _ _
  have HR := Go.Lib.hid (remove_yes L.pl L.pa L.bl L.ba s.slots s.lists L.fv (.int .i64 s.next) (.int .i64 s.live) u i w (by omega) (by omega) (by omega) R.lrep o1 o2 o3 o4 ⟨o5, o6⟩)
  have HP := Go.Lib.hid (fun w h => pushfront_yes L.pl L.pa L.bl L.ba (outS s.slots i) (st s.lists u (outL s.slots (lg s.lists u) i)) L.fv (.int .i64 s.next) (.int .i64 s.live) t i w lo (by omega) (by omega) h m1 m2 m3 ⟨m4, m5⟩)
  have HG := Go.Lib.hid G'
  have HV := Go.Lib.hid gv
  have HRR := Go.Lib.hid R
  have hl := Go.Lib.hid (list_yes L.pl L.pa L.bl L.ba s.slots s.lists L.fv (.int .i64 s.next) (.int .i64 s.live) t w (by omega) (by omega) R.lrep)
  clear G G' gv R hll h8 hb1 hb4 o1 o2 o3 o4 o5 o6 m1 m2 m3 m4 m5 lo hls
  go_enter Try.func175, Try.ntmps175
  go_wp2_with fail
  refine hl.out.mono ?_
  rintro e w1 ⟨rfl, rfl⟩
  go_wp2_with fail
  refine HR.out.mono ?_
  rintro e w1 ⟨rfl, hf1, H1⟩
  have HF1 := Go.Lib.hid hf1
  have HH1 := Go.Lib.hid H1
  clear hf1 H1
  go_wp2_with fail
  refine (HP.out _ HH1.out).mono ?_
  rintro e w2 ⟨rfl, hf2, H2⟩
  have R1 := HRR.out.relist HF1.out HH1.out
  have R2 := R1.relist hf2 H2
  have F : Fr L.has w w2 := (HF1.out.trans hf2 (fun _ h => .inl h)).mono (by
    rintro j (rfl | rfl)
    · simp [Hop.Loc.has]
    · simp [Hop.Loc.has])
  have HF := Go.Lib.hid F
  have HR2 := Go.Lib.hid R2
  clear F R2 R1 hf2 H2
  go_wp2_with fail
  go_ret
  exact ⟨rfl, _, _, HF.out, HR2.out, HG.out, HV.out⟩
set_option maxHeartbeats 800000 in
theorem move_has (t : Nat) (k : Int) (w : World) (hk0 : 0 ≤ k) (hk1 : k < 18446744073709551616) (ht : t < Q.length) (hk : hasK Q k) (H : Sta w ps O Q p) :
    Calls Try.prog 119 #[P0 ps, .int .i64 t, .int .u64 k] w fun e w' => e = .returned (.bool true) ∧ ∃ e0, (∃ l ∈ Q, e0 ∈ l) ∧ e0.key = k ∧ ∃ O', Sta w' ps O' (ins (del Q k) t e0) p ∧ Chg O O' w w' := by
  obtain ⟨L, s, q, rfl, rfl, R, G, rfl⟩ := H
  have ht' : t < q.length := by unfold vw at ht; rwa [List.length_map] at ht
  obtain ⟨j, hj, hjk⟩ := (hasK_vw G k).1 hk
  have HN := Go.Lib.hid (node_any k w hk0 hk1 R G)
  have HRR := Go.Lib.hid R
  have HG := Go.Lib.hid G
  have HJ := Go.Lib.hid hj
  have HJK := Go.Lib.hid hjk
  clear G R hk hj hjk ht
  go_enter Try.func119, Try.ntmps119
  go_wp2_with fail
  refine HN.out.mono ?_
  rintro e w1 ⟨i, rfl, hb, hN⟩
  obtain ⟨h1, h2⟩ : isT s.slots i = true ∧ (ndT s.slots i).key = k := by
    rcases hN with h | ⟨_, h⟩
    · exact h
    · exact absurd HJK.out (h j HJ.out)
  obtain ⟨u, hu, hi⟩ := (HG.out.tk i).1 h1
  have R1 := HRR.out.keep hb
  have c0 := R1.hs.cell 0
  simp only [List.getElem?_cons_zero, List.getElem?_cons_succ] at c0
  have hi0 : i ≠ 0 := isT_ne0 h1
  have HB := Go.Lib.hid hb
  have H2 := Go.Lib.hid h2
  have LM := Go.Lib.hid (lmove_any u t i w1 hu hi ht' R1 HG.out)
  have HI : Hid (∃ l ∈ vw s.slots q, en s.slots i ∈ l) := by
    obtain ⟨l, hl, hl'⟩ := inQ_mem.1 ((HG.out.tk i).1 h1)
    exact ⟨_, List.mem_map_of_mem hl, List.mem_map_of_mem hl'⟩
  clear hb hN h1 h2 hi R1
  go_wp2_with fail
  refine LM.out.mono ?_
  rintro e w2 ⟨rfl, s', q', hf, R2, G2, hv⟩
  rw [H2.out] at hv
  have HF := Go.Lib.hid hf
  have HR2 := Go.Lib.hid R2
  have HG2 := Go.Lib.hid G2
  have HV := Go.Lib.hid hv
  clear hf R2 G2 hv
  go_wp2_with fail
  go_ret
  exact ⟨rfl, en s.slots i, HI.out, H2.out, L.has, ⟨L, s', q', rfl, rfl, HR2.out, HG2.out, HV.out⟩, (Chg.of_below HB.out).trans ⟨HF.out, fun _ h => .inl h⟩⟩
set_option maxHeartbeats 800000 in
theorem move_not (t : Nat) (k : Int) (w : World) (hk0 : 0 ≤ k) (hk1 : k < 18446744073709551616) (hk : ¬ hasK Q k) (H : Sta w ps O Q p) :
    Calls Try.prog 119 #[P0 ps, .int .i64 t, .int .u64 k] w fun e w' => e = .returned (.bool false) ∧ Below w.heap.size w w' := by
  obtain ⟨L, s, q, rfl, rfl, R, G, rfl⟩ := H
  have hno' : ∀ j, isT s.slots j = true → (ndT s.slots j).key ≠ k := fun j hj hjk => hk ((hasK_vw G k).2 ⟨j, hj, hjk⟩)
  have HN := Go.Lib.hid (node_any k w hk0 hk1 R G)
  have HNO := Go.Lib.hid hno'
  clear G R hk hno'
  go_enter Try.func119, Try.ntmps119
  go_wp2_with fail
  refine HN.out.mono ?_
  rintro e w1 ⟨i, rfl, hb, hN⟩
  have hi0 : i = 0 := by
    rcases hN with ⟨h1, h2⟩ | ⟨h1, _⟩
    · exact absurd h2 (HNO.out _ h1)
    · exact h1
  subst hi0
  clear hN
  go_wp2_with fail
  go_ret
  exact ⟨rfl, hb⟩
set_option maxHeartbeats 800000 in
theorem sremove_has (k : Int) (w : World) (hk0 : 0 ≤ k) (hk1 : k < 18446744073709551616) (hk : hasK Q k) (H : Sta w ps O Q p) :
    Calls Try.prog 120 #[P0 ps, .int .u64 k] w fun e w' => e = .returned (.bool true) ∧ ∃ O', Sta w' ps O' (del Q k) p ∧ Chg O O' w w' := by
  obtain ⟨L, s, q, rfl, rfl, R, G, rfl⟩ := H
  obtain ⟨j, hj, hjk⟩ := (hasK_vw G k).1 hk
  have HN := Go.Lib.hid (node_any k w hk0 hk1 R G)
  have HRR := Go.Lib.hid R
  have HG := Go.Lib.hid G
  have HJ := Go.Lib.hid hj
  have HJK := Go.Lib.hid hjk
  clear G R hk hj hjk
  go_enter Try.func120, Try.ntmps120
  go_wp2_with fail
  refine HN.out.mono ?_
  rintro e w1 ⟨i, rfl, hb, hN⟩
  obtain ⟨h1, h2⟩ : isT s.slots i = true ∧ (ndT s.slots i).key = k := by
    rcases hN with h | ⟨_, h⟩
    · exact h
    · exact absurd HJK.out (h j HJ.out)
  obtain ⟨u, hu, hi⟩ := (HG.out.tk i).1 h1
  have R1 := HRR.out.keep hb
  have c0 := R1.hs.cell 0
  simp only [List.getElem?_cons_zero, List.getElem?_cons_succ] at c0
  have hi0 : i ≠ 0 := isT_ne0 h1
  have hll := HG.out.gl.len
  have h8 := HG.out.q8
  have hb1 := HG.out.b1
  have hb2 := HG.out.b2
  have hb4 := HG.out.b4
  obtain ⟨o1, o2, o3, o4, o5, o6⟩ := HG.out.outOf hu hi
  have HRM := Go.Lib.hid (remove_yes L.pl L.pa L.bl L.ba s.slots s.lists L.fv (.int .i64 s.next) (.int .i64 s.live) u i w1 (by omega) (by omega) (by omega) R1.lrep o1 o2 o3 o4 ⟨o5, o6⟩)
  have HB := Go.Lib.hid hb
  have H2 := Go.Lib.hid h2
  have HI := Go.Lib.hid hi
  have H1 := Go.Lib.hid h1
  have HR1 := Go.Lib.hid R1
  have lo : (outS s.slots i).length < 1000000 := by rw [outS_length]; omega
  have htl : s.tab.length < 500000 := by omega
  clear hb hN h1 h2 hi R1 o1 o2 o3 o4 o5 o6 hb1 hb2 hb4 h8 hll
  go_wp2_with fail
  refine HRM.out.mono ?_
  rintro e w2 ⟨rfl, hf2, L2⟩
  have R2 := HR1.out.relist hf2 L2
  have HF2 := Go.Lib.hid hf2
  have HR2 := Go.Lib.hid R2
  have c1 := R2.hs.cell 1
  simp only [List.getElem?_cons_zero, List.getElem?_cons_succ] at c1
  have hmm : s.many = cnt s.tab := by rw [HG.out.mn, HG.out.cn]
  have HMM := Go.Lib.hid hmm
  have DY := Go.Lib.hid (fun w h => del_yes L.pt L.bt s.tab k i w hk0 hk1 HG.out.p2 htl HG.out.ti ((HG.out.tin k i).2 ⟨H1.out, H2.out⟩) HG.out.fit HG.out.keys h)
  have hit : isT (outS s.slots i) i = true := by
    obtain ⟨_, _, _, hT1, _⟩ := HG.out.gl.take hu HI.out
    rw [hT1]; exact H1.out
  have hlv : 0 < s.live ∧ s.live < 1000000 ∧ s.freed.length < 1000000 := by
    have a := HG.out.lv
    have b := HG.out.b3
    have c := HG.out.b4
    have d := HG.out.ai.cn
    have e := HG.out.ai.hi
    have f := HG.out.b1
    have g := total_take HG.out.gl hu HI.out
    omega
  obtain ⟨v1, v2, v3⟩ := hlv
  have HFR := Go.Lib.hid (free_yes L.pa L.ba (outS s.slots i) s.next s.live L.fv s.freed i w2 lo hit ⟨v1, v2⟩ R2.fr v3 R2.ha R2.ba)
  clear hf2 L2 R2 c0 hmm hit v1 v2 v3 lo htl
  go_wp2_with fail
  refine HFR.out.mono ?_
  rintro e w3 ⟨rfl, hf3, fv', ha3, hb3, hfr3, hown⟩
  have q3 := fun (b : Nat) (cs : List Value) (T : Nat) (h : Blk w2 b cs T) (h1 : T ≠ 189) (h2 : T ≠ 201) (h3 : T ≠ 21) => hf3.blk (x := b) (cs := cs) (T := T) (by
    rintro (e | e | e)
    · exact h.ne HR2.out.ha h1 e
    · exact h.ne HR2.out.ba h2 e
    · exact frv_ne HR2.out.fr h (Ne.symm h3) b e rfl) h
  have hs3 := q3 _ _ _ HR2.out.hs (by decide) (by decide) (by decide)
  have ht3 := q3 _ _ _ HR2.out.ht (by decide) (by decide) (by decide)
  have bt3 := q3 _ _ _ HR2.out.bt (by decide) (by decide) (by decide)
  have hl3 := q3 _ _ _ HR2.out.hl (by decide) (by decide) (by decide)
  have bl3 := q3 _ _ _ HR2.out.bl (by decide) (by decide) (by decide)
  have c2 := hs3.cell 2
  simp only [List.getElem?_cons_zero, List.getElem?_cons_succ] at c2
  have HF3 := Go.Lib.hid hf3
  have HOW := Go.Lib.hid hown
  have T3 : TRep w3 L.pt L.bt s.tab (cnt s.tab) := ⟨by rw [← HMM.out]; exact ht3, bt3⟩
  have HT3 := Go.Lib.hid T3
  have HS3 := Go.Lib.hid hs3
  have HL3 := Go.Lib.hid hl3
  have HBL3 := Go.Lib.hid bl3
  have HA3 := Go.Lib.hid ha3
  have HB3 := Go.Lib.hid hb3
  have HFV3 := Go.Lib.hid hfr3
  clear q3 hs3 ht3 bt3 hl3 bl3 ha3 hb3 hfr3 hf3 hown T3 c1
  go_wp2_with fail
  refine (DY.out _ HT3.out).mono ?_
  rintro e w4 ⟨rfl, t', hf4, T4, D⟩
  obtain ⟨_, _, _, _, G', gv⟩ := HG.out.remove hu HI.out (tab1 := t') (by rw [H2.out]; exact D)
  rw [H2.out] at gv
  have q4 := fun (b : Nat) (cs : List Value) (T : Nat) (h : Blk w3 b cs T) (h1 : T ≠ 195) (h2 : T ≠ 213) => hf4.blk (x := b) (cs := cs) (T := T) (by
    rintro (e | e)
    · exact h.ne HT3.out.ht h1 e
    · exact h.ne HT3.out.bt h2 e) h
  have fr4 : Frv w4 fv' (s.freed ++ [i]) := HFV3.out.frame hf4 (by
    rintro k hk (e | e)
    · exact frv_ne HFV3.out HT3.out.ht (by decide) k hk e
    · exact frv_ne HFV3.out HT3.out.bt (by decide) k hk e)
  have R4 : SRep w4 { L with fv := fv' } ⟨st (outS s.slots i) i Sl.z, s.freed ++ [i], s.next, s.live - 1, st s.lists u (outL s.slots (lg s.lists u) i), t', s.many - 1, s.queues⟩ :=
    ⟨q4 _ _ _ HS3.out (by decide) (by decide), q4 _ _ _ HL3.out (by decide) (by decide), by
      have h := q4 _ _ _ HA3.out (by decide) (by decide)
      rw [← st_length (outS s.slots i) i Sl.z] at h
      exact h, by rw [HMM.out]; exact T4.ht, q4 _ _ _ HBL3.out (by decide) (by decide), q4 _ _ _ HB3.out (by decide) (by decide), T4.bt, fr4⟩
  have sz1 := HB.out.size
  have sz2 := HF2.out.size
  have F2 : Fr L.has w w2 := (Fr.of_below HB.out).trans (own := L.has) HF2.out (by
    rintro j (rfl | rfl)
    · exact .inl (by simp [Hop.Loc.has])
    · exact .inl (by simp [Hop.Loc.has]))
  have F3 : Fr L.has w w3 := F2.trans HF3.out (by
    rintro j (rfl | rfl | h)
    · exact .inl (by simp [Hop.Loc.has])
    · exact .inl (by simp [Hop.Loc.has])
    · exact .inl (by simp [Hop.Loc.has, h]))
  have F4 : Fr L.has w w4 := F3.trans hf4 (by
    rintro j (rfl | rfl)
    · exact .inl (by simp [Hop.Loc.has])
    · exact .inl (by simp [Hop.Loc.has]))
  have C : Chg L.has ({ L with fv := fv' } : Hop.Loc).has w w4 := ⟨F4, by
    rintro j (h | h | h | h | h | h | h | h)
    · exact .inl (.inl h)
    · exact .inl (.inr (.inl h))
    · exact .inl (.inr (.inr (.inl h)))
    · exact .inl (.inr (.inr (.inr (.inl h))))
    · exact .inl (.inr (.inr (.inr (.inr (.inl h)))))
    · exact .inl (.inr (.inr (.inr (.inr (.inr (.inl h))))))
    · exact .inl (.inr (.inr (.inr (.inr (.inr (.inr (.inl h)))))))
    · rcases HOW.out j h with h' | h'
      · exact .inl (.inr (.inr (.inr (.inr (.inr (.inr (.inr h')))))))
      · exact .inr (by omega)⟩
  have HC := Go.Lib.hid C
  have HR4 := Go.Lib.hid R4
  have HG4 := Go.Lib.hid G'
  have HV4 := Go.Lib.hid gv
  clear C F4 F3 F2 R4 fr4 q4 G' gv hf4 T4 D sz1 sz2 c2
  go_wp2_with fail
  go_ret
  exact ⟨rfl, _, ⟨{ L with fv := fv' }, _, _, rfl, rfl, HR4.out, HG4.out, HV4.out⟩, HC.out⟩
set_option maxHeartbeats 800000 in
theorem sremove_not (k : Int) (w : World) (hk0 : 0 ≤ k) (hk1 : k < 18446744073709551616) (hk : ¬ hasK Q k) (H : Sta w ps O Q p) :
    Calls Try.prog 120 #[P0 ps, .int .u64 k] w fun e w' => e = .returned (.bool false) ∧ Below w.heap.size w w' := by
  obtain ⟨L, s, q, rfl, rfl, R, G, rfl⟩ := H
  have hno' : ∀ j, isT s.slots j = true → (ndT s.slots j).key ≠ k := fun j hj hjk => hk ((hasK_vw G k).2 ⟨j, hj, hjk⟩)
  have HN := Go.Lib.hid (node_any k w hk0 hk1 R G)
  have HNO := Go.Lib.hid hno'
  clear G R hk hno'
  go_enter Try.func120, Try.ntmps120
  go_wp2_with fail
  refine HN.out.mono ?_
  rintro e w1 ⟨i, rfl, hb, hN⟩
  have hi0 : i = 0 := by
    rcases hN with ⟨h1, h2⟩ | ⟨h1, _⟩
    · exact absurd h2 (HNO.out _ h1)
    · exact h1
  subst hi0
  clear hN
  go_wp2_with fail
  go_ret
  exact ⟨rfl, hb⟩
end
end Go.Proofs.Ytlakojncjldpbaa
