/- The adaptive cache over a store: Has, Touch, Drop, Ghosts, Rooms, New. -/
import Derived.Test.YtlakojncjldpbaaGreatGAca
namespace Go.Proofs.YtlakojncjldpbaaGreat
open Go.RowKit Hop
set_option linter.unusedVariables false
set_option linter.unusedSimpArgs false
set_option maxRecDepth 100000
/-- The cache, with all that is told of it; these blocks are its own. -/
def Aca (w : World) (px : Nat) (O : Nat → Prop) (s : AS) (p : Nat) : Prop :=
  ∃ ps O1, Blk w px [P0 ps, .int .i64 s.c, .int .i64 s.p] 96 ∧ Sta w ps O1 (qN (lsA s)) p ∧ ¬ O1 px ∧ O = (fun k => k = px ∨ O1 k)
theorem Aca.keep {w w' : World} {px : Nat} {O : Nat → Prop} {s : AS} {p : Nat} (h : Aca w px O s p) (hb : Below w.heap.size w w') : Aca w' px O s p := by
  obtain ⟨ps, O1, h1, h2, h3⟩ := h
  exact ⟨ps, O1, h1.keep hb, h2.keep hb, h3⟩
theorem Aca.frame {w w' : World} {px : Nat} {O : Nat → Prop} {s : AS} {p : Nat} (h : Aca w px O s p) {own : Nat → Prop} (hf : Fr own w w') (hn : ∀ k, O k → ¬ own k) : Aca w' px O s p := by
  obtain ⟨ps, O1, h1, h2, h3, h4⟩ := h
  subst h4
  exact ⟨ps, O1, hf.blk (fun e => hn px (.inl rfl) e) h1, h2.frame hf (fun k hk => hn k (.inr hk)), h3, rfl⟩
theorem Aca.typ {w : World} {px : Nat} {O : Nat → Prop} {s : AS} {p : Nat} (H : Aca w px O s p) {b : Nat} {cs : List Value} {T : Nat} (hb : Blk w b cs T) (h0 : T ≠ 96)
    (hT : T ≠ 117 ∧ T ≠ 158 ∧ T ≠ 155 ∧ T ≠ 161 ∧ T ≠ 187 ∧ T ≠ 168 ∧ T ≠ 192 ∧ T ≠ 21) : ¬ O b := by
  obtain ⟨ps, O1, h1, h2, h3, rfl⟩ := H
  rintro (e | e)
  · exact hb.ne h1 h0 e
  · exact h2.typ hb hT e
theorem Aca.kl {w : World} {px : Nat} {O : Nat → Prop} {s : AS} {L' : List Int} {p : Nat} {v : Value} (H : Aca w px O s p) (h : KL w v L') : ∀ b, v.ownBlock = some b → ¬ O b := by
  intro b hb
  obtain ⟨_, cs, h'⟩ := Row.lt h hb
  exact H.typ h' (by decide) (by decide)
theorem Aca.len {w : World} {px : Nat} {O : Nat → Prop} {s : AS} {p : Nat} (h : Aca w px O s p) : s.t.length + s.u.length + s.b.length + s.d.length ≤ p ∧ p < 50000 := by
  obtain ⟨ps, O1, h1, h2, h3, h4⟩ := h
  exact len_four h2.qok
section
variable {ps : Nat} {O : Nat → Prop} {p : Nat} {s : AS}
set_option maxHeartbeats 800000 in
theorem ahas_any (px : Nat) (k : Int) (w : World) (hk0 : 0 ≤ k) (hk1 : k < 18446744073709551616) (H : Aca w px O s p) :
    Calls Tryz.prog 61 #[P0 px, .int .u64 k] w fun e w' => e = .returned (.bool (decide (k ∈ s.t ++ s.u))) ∧ Below w.heap.size w w' := by
  obtain ⟨ps, O1, hx, hs, hn, rfl⟩ := H
  have c0 := hx.cell 0
  simp only [List.getElem?_cons_zero, List.getElem?_cons_succ] at c0
  have nd := nd_four hs.qok
  have hF : Calls Tryz.prog 56 #[P0 ps, .int .u64 k] w fun e w' => ∃ (t : Int) (ok : Bool), e = .returned (.tuple #[.int .i64 t, .bool ok]) ∧ Below w.heap.size w w' ∧ ((ok = true ∧ ((t = 0 ∧ decide (k ∈ s.t ++ s.u) = true) ∨ (t = 1 ∧ decide (k ∈ s.t ++ s.u) = true) ∨ (t = 2 ∧ decide (k ∈ s.t ++ s.u) = false) ∨ (t = 3 ∧ decide (k ∈ s.t ++ s.u) = false))) ∨ (ok = false ∧ decide (k ∈ s.t ++ s.u) = false)) := by
    refine (find_k k w hk0 hk1 hs).mono ?_
    rintro e w' ⟨t, ok, rfl, hb, h⟩
    refine ⟨t, ok, rfl, hb, ?_⟩
    rcases h with ⟨h1, h2, h3⟩ | ⟨h1, h2, h3⟩
    · refine .inl ⟨h1, ?_⟩
      match t, h2, h3 with
      | 0, _, h3 => exact .inl ⟨rfl, decide_eq_true (List.mem_append_left _ (by simpa [lsA] using h3))⟩
      | 1, _, h3 => exact .inr (.inl ⟨rfl, decide_eq_true (List.mem_append_right _ (by simpa [lsA] using h3))⟩)
      | 2, _, h3 =>
        have ho : k ∈ s.b := by simpa [lsA] using h3
        exact .inr (.inr (.inl ⟨rfl, decide_eq_false (fun h => by
          rcases List.mem_append.1 h with h | h
          · exact (nd.tx k h).2.1 ho
          · exact (nd.ux k h).1 ho)⟩))
      | 3, _, h3 =>
        have ho : k ∈ s.d := by simpa [lsA] using h3
        exact .inr (.inr (.inr ⟨rfl, decide_eq_false (fun h => by
          rcases List.mem_append.1 h with h | h
          · exact (nd.tx k h).2.2 ho
          · exact (nd.ux k h).2 ho)⟩))
      | t + 4, h2, _ => simp [lsA] at h2; omega
    · refine .inr ⟨h1, decide_eq_false (fun h => h3 ?_)⟩
      rcases List.mem_append.1 h with h | h
      · simp [lsA, h]
      · simp [lsA, h]
  have HF := Go.Lib.hid hF
  clear hF hs hn nd
  generalize decide (k ∈ s.t ++ s.u) = b at *
  go_enter Tryz.func61, Tryz.ntmps61
  go_wp2_with fail
  refine HF.out.mono ?_
  rintro e w1 ⟨t, ok, rfl, hb, h⟩
  have HB := Go.Lib.hid hb
  clear hb
  rcases h with ⟨rfl, ⟨rfl, rfl⟩ | ⟨rfl, rfl⟩ | ⟨rfl, rfl⟩ | ⟨rfl, rfl⟩⟩ | ⟨rfl, rfl⟩
  all_goals
    go_wp2_with fail
    go_ret
    exact ⟨rfl, HB.out⟩
set_option maxHeartbeats 800000 in
theorem atouch_any (px : Nat) (k : Int) (w : World) (hk0 : 0 ≤ k) (hk1 : k < 18446744073709551616) (H : Aca w px O s p) :
    Calls Tryz.prog 59 #[P0 px, .int .u64 k] w fun e w' => e = .returned (.tuple #[]) ∧ ∃ O', Aca w' px O' (touchA s k) p ∧ Chg O O' w w' := by
  have HHS := Go.Lib.hid (ahas_any px k w hk0 hk1 H)
  have HT : Hid (touchA s k = if k ∈ s.t ++ s.u then ⟨s.c, s.p, wo s.t k, k :: wo s.u k, s.b, s.d⟩ else s) := Go.Lib.hid rfl
  have HH := Go.Lib.hid H
  clear H
  go_enter Tryz.func59, Tryz.ntmps59
  go_wp2_with fail
  refine HHS.out.mono ?_
  by_cases hk : k ∈ s.t ++ s.u
  · have hd : decide (k ∈ s.t ++ s.u) = true := decide_eq_true hk
    rw [hd]
    rw [if_pos hk] at HT
    rintro e w1 ⟨rfl, hb⟩
    obtain ⟨ps, O1, hx, hs, hn, hOO⟩ := HH.out.keep hb
    have nd := nd_four hs.qok
    have d0 := hx.cell 0
    simp only [List.getElem?_cons_zero, List.getElem?_cons_succ] at d0
    have hkb : k ∉ s.b ∧ k ∉ s.d := by
      rcases List.mem_append.1 hk with h | h
      · exact ⟨(nd.tx k h).2.1, (nd.tx k h).2.2⟩
      · exact nd.ux k h
    have hmem : k ∈ (lsA s).flatten := by
      rcases List.mem_append.1 hk with h | h
      · simp [lsA, h]
      · simp [lsA, h]
    have hM := move_k 1 k w1 hk0 hk1 (by simp [lsA]) hmem hs
    have e : (((lsA s).map (fun L => wo L k)).set 1 (k :: ((lsA s).map (fun L => wo L k)).getD 1 [])) = [wo s.t k, k :: wo s.u k, s.b, s.d] := by
      simp only [lsA, List.map_cons, List.map_nil, List.set_cons_succ, List.set_cons_zero, List.getD_cons_succ, List.getD_cons_zero]
      rw [wo_id hkb.1, wo_id hkb.2]
    rw [e] at hM
    have HM := Go.Lib.hid hM
    have HX := Go.Lib.hid hx
    have HN := Go.Lib.hid hn
    have HOO := Go.Lib.hid hOO
    have HB := Go.Lib.hid hb
    clear hd hk hb hx hs hn hOO nd hkb hmem hM e
    go_wp2_with fail
    refine HM.out.mono ?_
    rintro e w2 ⟨rfl, O2, h3, h4⟩
    have H3 := Go.Lib.hid h3
    have H4 := Go.Lib.hid h4
    clear h3 h4
    go_wp2_with fail
    go_end0
    refine ⟨rfl, _, ⟨ps, O2, by rw [HT.out]; exact H4.out.blk HN.out HX.out, by rw [HT.out]; exact H3.out, H4.out.not HX.out.lt HN.out, rfl⟩, ?_⟩
    rw [HOO.out]
    exact (Chg.of_below HB.out).trans (chg_up px H4.out)
  · have hd : decide (k ∈ s.t ++ s.u) = false := decide_eq_false hk
    rw [hd]
    rw [if_neg hk] at HT
    clear hd hk
    rintro e w1 ⟨rfl, hb⟩
    have HB := Go.Lib.hid hb
    clear hb
    go_wp2_with fail
    go_end0
    exact ⟨rfl, O, by rw [HT.out]; exact HH.out.keep HB.out, Chg.of_below HB.out⟩
set_option maxHeartbeats 800000 in
theorem adrop_any (px : Nat) (k : Int) (w : World) (hk0 : 0 ≤ k) (hk1 : k < 18446744073709551616) (H : Aca w px O s p) :
    Calls Tryz.prog 71 #[P0 px, .int .u64 k] w fun e w' => e = .returned (.tuple #[]) ∧ ∃ O', Aca w' px O' (dropA s k) p ∧ Chg O O' w w' := by
  obtain ⟨ps, O1, hx, hs, hn, rfl⟩ := H
  have c0 := hx.cell 0
  simp only [List.getElem?_cons_zero, List.getElem?_cons_succ] at c0
  have HM := Go.Lib.hid (remove_k k w hk0 hk1 hs)
  have HX := Go.Lib.hid hx
  have HN := Go.Lib.hid hn
  clear hs hn hx
  go_enter Tryz.func71, Tryz.ntmps71
  go_wp2_with fail
  refine HM.out.mono ?_
  rintro e w1 ⟨rfl, O2, h3, h4⟩
  have H3 := Go.Lib.hid h3
  have H4 := Go.Lib.hid h4
  clear h3 h4
  go_wp2_with fail
  go_end0
  exact ⟨rfl, _, ⟨ps, O2, H4.out.blk HN.out HX.out, H3.out, H4.out.not HX.out.lt HN.out, rfl⟩, chg_up px H4.out⟩
set_option maxHeartbeats 800000 in
theorem aghosts_any (px : Nat) (w : World) (H : Aca w px O s p) :
    Calls Tryz.prog 34 #[P0 px] w fun e w' => e = .returned (.int .i64 (s.b.length + s.d.length : Nat)) ∧ Below w.heap.size w w' := by
  obtain ⟨ps, O1, hx, hs, hn, rfl⟩ := H
  obtain ⟨V, hV⟩ : ∃ V, V = w.alloc (.cells #[.int .i64 2, .int .i64 3] 3) := ⟨_, rfl⟩
  have BV : Below w.heap.size w V := by rw [hV]; exact (Below.refl _ _).alloc (Nat.le_refl _) _
  have bV : Blk V w.heap.size [.int .i64 2, .int .i64 3] 3 := by rw [hV]; exact Blk.new0 w [.int .i64 2, .int .i64 3] 3
  have HMN : Hid (Calls Tryz.prog 74 #[P0 px, .slice (some ⟨w.heap.size, 0, none⟩) 2 2] V fun e w' => e = .returned (.int .i64 (s.b.length + s.d.length : Nat)) ∧ V = w') := Go.Lib.hid (amany_any (Ls := lsA s) px s.c s.p 2 3 w.heap.size V (by simp [lsA]) (by simp [lsA]) bV (hx.keep BV) (hs.keep BV))
  have HV := Go.Lib.hid hV
  have HBV := Go.Lib.hid BV
  generalize s.b.length + s.d.length = n at *
  clear hV BV bV hx hs hn
  go_enter Tryz.func34, Tryz.ntmps34
  go_wp2_with fail
  rw [← HV.out]
  refine HMN.out.mono ?_
  rintro e w1 ⟨rfl, rfl⟩
  go_wp2_with fail
  go_ret
  exact ⟨rfl, HBV.out⟩
end
set_option maxHeartbeats 800000 in
theorem anew_any' (n : Int) (w : World) :
    Calls Tryz.prog 22 #[.int .i64 n] w fun e w' => ∃ px O', e = .returned (P0 px) ∧ Aca w' px O' ⟨capF n, 0, [], [], [], []⟩ 0 ∧ (∀ k, O' k → w.heap.size ≤ k) ∧ Below w.heap.size w w' := by
  have f0 := arS_c
  go_enter Tryz.func22, Tryz.ntmps22
  go_wp2_with fail
  refine (new_sta 4 w (by omega) (by omega)).mono ?_
  rintro e w1 ⟨ps, rfl, hge, O, hs, ho, hb⟩
  have HS := Go.Lib.hid hs
  have HO := Go.Lib.hid ho
  have HB := Go.Lib.hid hb
  clear hs ho hb
  go_wp2_with fail
  refine (arnew_any n w1).mono ?_
  rintro e w2 ⟨rfl, hb2⟩
  have HB2 := Go.Lib.hid hb2
  clear hb2
  go_wp2_with fail
  go_ret
  have sz1 := HB.out.size
  have sz2 := HB2.out.size
  have B2 := HB.out.trans (HB2.out.mono sz1)
  have A := (Below.refl w2.heap.size w2).alloc (Nat.le_refl _) (.cells #[P0 ps, .int .i64 (capF n), .int .i64 0] 96)
  have S2 := HS.out.keep HB2.out
  refine ⟨w2.heap.size, _, rfl, ⟨ps, O, Blk.new0 w2 [P0 ps, .int .i64 (capF n), .int .i64 0] 96, S2.keep A, fun h => by have := S2.lt h; omega, rfl⟩, ?_, B2.alloc (by omega) _⟩
  rintro k (rfl | hk)
  · omega
  · exact HO.out k hk
end Go.Proofs.YtlakojncjldpbaaGreat
