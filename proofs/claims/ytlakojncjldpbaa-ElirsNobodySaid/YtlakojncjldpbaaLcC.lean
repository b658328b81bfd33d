/- The cache of low inter-reference recency: Keys, Rooms; of none at all. -/
import Derived.Test.YtlakojncjldpbaaLcB
namespace Go.Proofs.Ytlakojncjldpbaa
open Go.RowKit Hop
set_option linter.unusedVariables false
set_option linter.unusedSimpArgs false
set_option maxRecDepth 100000
theorem encI_len (x : LI) : (encI x).length = 2 := rfl
theorem IL.form {T : Nat} {w : World} {v : Value} {L : List LI} (h : IL T w v L) : ∃ a cap, v = .slice a L.length cap := row_form h
theorem IL.keep {T : Nat} {w w' : World} {v : Value} {L : List LI} (h : IL T w v L) (hb : Below w.heap.size w w') : IL T w' v L := Row.keep h hb
theorem IL.nil {T : Nat} (w : World) : IL T w (.slice none 0 0) [] := Row.nil _ _ _
theorem IL.get {T : Nat} {w : World} {a : Option Addr} {n cap : Nat} {L : List LI} (h : IL T w (.slice a n cap) L) {j : Nat} (hj : j < L.length) :
    ∃ g key kd, a = some ⟨g, 0, none⟩ ∧ L.length ≤ cap ∧ cap ≤ maxLen ∧ w.cell? ⟨g, j * 2, none⟩ = some (.int .u64 key) ∧ w.cell? ⟨g, j * 2 + 1, none⟩ = some (.int .i64 kd) ∧ L.take (j + 1) = L.take j ++ [⟨key, kd⟩] ∧ L[j]? = some ⟨key, kd⟩ ∧ g < w.heap.size := by
  rcases h.2 with ⟨h1, h2⟩ | ⟨g, cap', cs, h1, h2, h3, h4, h5, h6⟩
  · omega
  · injection h1 with e1 e2 e3
    subst e3
    have hget : L[j]? = some L[j] := List.getElem?_eq_getElem hj
    have cell : ∀ k, k < 2 → w.cell? ⟨g, j * 2 + k, none⟩ = (encI L[j])[k]? := by
      intro k hk
      rw [h2.cell, ← flat_get encI_len L j k hj hk, ← h6, List.getElem?_take, if_pos (by omega)]
    refine ⟨g, L[j].key, L[j].kind, e1, h3, h4, ?_, ?_, ?_, hget, h2.lt⟩
    · have := cell 0 (by omega)
      simpa [encI] using this
    · have := cell 1 (by omega)
      simpa [encI] using this
    · rw [List.take_add_one, hget]
      rfl
theorem IL.le {T : Nat} {w : World} {v : Value} {L : List LI} (h : IL T w v L) : L.length ≤ maxLen := by
  rcases h.2 with ⟨_, h2⟩ | ⟨g, cap, cs, h1, h2, h3, h4, h5⟩
  · omega
  · omega
theorem hots_snoc (A : List LI) (key kd : Int) : hotsL (A ++ [⟨key, kd⟩]) = hotsL A ++ (if kd = 2 then [key] else []) := by
  unfold hotsL
  rw [List.filter_append, List.map_append]
  congr 1
  by_cases h : kd = 2 <;> simp [h]
set_option maxHeartbeats 3200000 in
theorem likeys_any (c : Int) (v1 v2 : Value) (S : List LI) (q : List Int) (w : World) (hl : S.length < 100000 ∧ q.length < 100000) (h1 : IL 143 w v1 S) (h2 : KL w v2 q) :
    Calls Try.prog 143 #[.agg #[.int .i64 c, v1, v2]] w fun e w' => ∃ v, e = .returned v ∧ KL w' v (hotsL S ++ q) ∧ Below w.heap.size w w' := by
  obtain ⟨a1, c1, rfl⟩ := h1.form
  obtain ⟨a2, c2, rfl⟩ := h2.form
  obtain ⟨W, hW⟩ : ∃ W, W = w.alloc (.cells #[.int .i64 c, .slice a1 S.length c1, .slice a2 q.length c2] 88) := ⟨_, rfl⟩
  have b0 : Blk W w.heap.size [.int .i64 c, .slice a1 S.length c1, .slice a2 q.length c2] 88 := by rw [hW]; exact Blk.new0 w [.int .i64 c, .slice a1 S.length c1, .slice a2 q.length c2] 88
  have A0 : Below w.heap.size w W := by rw [hW]; exact (Below.refl _ _).alloc (Nat.le_refl _) _
  have H1 := Go.Lib.hid (h1.keep A0)
  have H2 := Go.Lib.hid (h2.keep A0)
  have HA := Go.Lib.hid A0
  have HW := Go.Lib.hid hW
  have Hb0 := Go.Lib.hid b0
  have z1 := b0.cell 1
  have l0 := b0.lt
  obtain ⟨hl1, hl2⟩ := hl
  have hzw := A0.size
  simp only [List.getElem?_cons_zero, List.getElem?_cons_succ] at z1
  clear h1 h2 A0 hW b0
  go_enter Try.func143, Try.ntmps143
  go_wp2_with fail
  rw [← HW.out]
  go_wp2_with fail
  go_loopw [3, 9] (fun v i wr => ∃ j : Nat, j ≤ S.length ∧ i = .int .i64 j ∧ Hid (KL wr v (hotsL (S.take j))) ∧ Hid (∀ b, v.ownBlock = some b → W.heap.size ≤ b) ∧ Hid (Below W.heap.size W wr)) (fun _ i _ => S.length - (intOf i).toNat)
  case atStart => exact ⟨0, by omega, rfl, Go.Lib.hid (KL.nil _), Go.Lib.hid (fun b hb => by cases hb), Go.Lib.hid (Below.refl _ _)⟩
  case round =>
    obtain ⟨j, hj, rfl, hr, ho, hb⟩ := hrel
    by_cases hlt : j < S.length
    · obtain ⟨g, key, kd, rfl, hc1, hc2, e0, e1, htk, hget, gl⟩ := (H1.out.keep hb.out).get hlt
      have hA : Below wr.heap.size wr (wr.alloc (.cells #[.int .u64 key, .int .i64 kd] 143)) := (Below.refl _ _).alloc (Nat.le_refl _) _
      have hb2 := Go.Lib.hid (hb.out.trans (hA.mono hb.out.size))
      have hr2 := Go.Lib.hid (hr.out.keep hA)
      have HT := Go.Lib.hid (show hotsL (S.take (j + 1)) = hotsL (S.take j) ++ (if kd = 2 then [key] else []) by rw [htk, hots_snoc])
      have hhl : (hotsL (S.take j)).length < 100000 := by
        have q1 := hots_len (S.take j)
        have q2 := many_le (S.take j) 2
        rw [List.length_take] at q2
        omega
      have hw2 : w.heap.size ≤ wr.heap.size := Nat.le_trans hzw hb.out.size
      clear htk hget hA hr hb
      by_cases hk : kd = 2
      · subst hk
        have HT2 : Hid (hotsL (S.take (j + 1)) = hotsL (S.take j) ++ [key]) := Go.Lib.hid (by rw [HT.out, if_pos rfl])
        clear HT
        go_wp2_with (at_builtin; refine wpList_append_row _ rfl (.tmp 16) (.tmp 19) 26 rfl 31 (.int .u64 0) 1 8 Try.underlying26 u64_info rfl (by decide) _ _ _ rfl (Row.keep hr2.out ((Below.refl _ _).alloc (Nat.le_refl _) _)) ⟨wr.heap.size + 1, 0, none⟩ 1 1 [.int .u64 key] rfl (by decide) rfl ?c1 ?c2 ?b1 ?b2 ?next)
        case c1 => intro i u hu; match i, hu with | 0, hu => simp at hu; subst hu; simp [Addr.add]
        case c2 => intro u hu; simp at hu; subst hu; rfl
        case b1 => unfold maxLen; omega
        case b2 => omega
        case next =>
          intro g' cap' w3 hr3 hf3 hg3
          have B3 := hb2.out.alloc hb2.out.size (.cells #[.int .u64 key] 31)
          have B4 := below_fr B3 hf3 (Nat.le_refl _) ho.out
          have K3 : KL w3 (.slice (some ⟨g', 0, none⟩) ((hotsL (S.take j)).length + 1) cap') (hotsL (S.take (j + 1))) := by
            unfold KL
            rw [HT2.out, List.map_append, List.length_append]
            exact hr3
          have O3 : ∀ b, (Value.slice (some ⟨g', 0, none⟩) ((hotsL (S.take j)).length + 1) cap').ownBlock = some b → W.heap.size ≤ b := by
            intro b hb
            have e : g' = b := by simpa [Value.ownBlock] using hb
            subst e
            rcases hg3 with h | h
            · exact ho.out _ h
            · have q := hb2.out.size
              simp only [World.size_alloc] at h q
              omega
          have HK3 := Go.Lib.hid K3
          have HO3 := Go.Lib.hid O3
          have HB4 := Go.Lib.hid B4
          clear K3 O3 B4 B3 hr3 hf3 hg3
          go_wp2_with fail
          go_roundw
          case rel => exact ⟨j + 1, by omega, by go_num, HK3, HO3, HB4⟩
          case measure => simp [intOf]; omega
      · have HT2 : Hid (hotsL (S.take (j + 1)) = hotsL (S.take j)) := Go.Lib.hid (by rw [HT.out, if_neg hk, List.append_nil])
        clear HT
        go_wp2_with fail
        go_roundw
        case rel => exact ⟨j + 1, by omega, by go_num, Go.Lib.hid (by rw [HT2.out]; exact hr2.out), ho, hb2⟩
        case measure => simp [intOf]; omega
    · have e : j = S.length := by omega
      subst e
      rw [List.take_length] at hr
      have bb := Hb0.out.keep hb.out
      have z2 := bb.cell 2
      have l2 := bb.lt
      simp only [List.getElem?_cons_zero, List.getElem?_cons_succ] at z2
      have hq := Go.Lib.hid (H2.out.keep hb.out)
      have hhl : (hotsL S).length < 100000 := by
        have q1 := hots_len S
        have q2 := many_le S 2
        omega
      have hz2 := hb.out.size
      clear bb
      go_wp2_with (at_builtin; refine wpList_append_two _ rfl (.tmp 22) (.tmp 24) 26 rfl 31 (.int .u64 0) 1 8 Try.underlying26 u64_info rfl (by decide) _ _ _ rfl hr.out (.slice a2 q.length c2) q.length (q.map (Value.int .u64)) rfl hq.out (keys_one _) ?b1 ?b2 ?next)
      case b1 => unfold maxLen; omega
      case b2 => omega
      case next =>
        intro v3 w3 r1 r2 r3
        have B4 := below_fr hb.out r2 (Nat.le_refl _) ho.out
        have K3 : KL w3 v3 (hotsL S ++ q) := by
          unfold KL
          rw [List.map_append, List.length_append]
          exact r1
        have HK3 := Go.Lib.hid K3
        have HB4 := Go.Lib.hid (HA.out.trans (B4.mono HA.out.size))
        clear K3 B4 r1 r2 r3
        go_wp2_with fail
        go_ret
        exact ⟨_, rfl, HK3.out, HB4.out⟩
section
variable {px : Nat} {O : Nat → Prop} {s : LS} {p1 p2 : Nat}
set_option maxHeartbeats 1600000 in
theorem lkeys_ca (w : World) (H : Lca w px O s p1 p2) :
    Calls Try.prog 86 #[P0 px] w fun e w' => ∃ v, e = .returned v ∧ KL w' v (allL s) ∧ Below w.heap.size w w' := by
  have hl := Lcr.len H
  have HS := Go.Lib.hid (lstate_ca w H)
  have HL : Hid (s.s.length < 100000 ∧ s.q.length < 100000) := Go.Lib.hid ⟨by omega, by omega⟩
  clear H hl
  go_enter Try.func86, Try.ntmps86
  go_wp2_with fail
  refine HS.out.mono ?_
  rintro e w1 ⟨v1, v2, rfl, h1, h2, hb⟩
  have HK := Go.Lib.hid (likeys_any s.c v1 v2 s.s s.q w1 HL.out h1 h2)
  have HB := Go.Lib.hid hb
  clear h1 h2 hb
  go_wp2_with fail
  refine HK.out.mono ?_
  rintro e w2 ⟨v, rfl, hk, hb2⟩
  have HK2 := Go.Lib.hid hk
  have HB2 := Go.Lib.hid (HB.out.trans (hb2.mono HB.out.size))
  clear hk hb2
  go_wp2_with fail
  go_ret
  exact ⟨_, rfl, HK2.out, HB2.out⟩
set_option maxHeartbeats 1600000 in
theorem lrooms_ca (w : World) (H : Lca w px O s p1 p2) :
    Calls Try.prog 84 #[P0 px] w fun e w' => ∃ a b : Nat, e = .returned (.tuple #[.int .i64 a, .int .i64 b]) ∧ Below w.heap.size w w' ∧ s.s.length + s.q.length ≤ a ∧ s.s.length + s.q.length ≤ b ∧ a ≤ 16 + 2 * p1 + 2 * p2 ∧ 3 * b ≤ 48 + 8 * p1 + 8 * p2 := by
  have hl := Lcr.len H
  obtain ⟨ps, pq, O1, O2, H, rfl⟩ := H
  have HR1 := Go.Lib.hid (rooms_sta w H.st)
  have HR2 := Go.Lib.hid (fun w' (hb : Below w.heap.size w w') => rooms_k w' (H.qu.keep hb))
  have HH := Go.Lib.hid H
  have c0 := H.x.cell 0
  simp only [List.getElem?_cons_zero, List.getElem?_cons_succ] at c0
  clear H
  go_enter Try.func84, Try.ntmps84
  go_wp2_with fail
  refine HR1.out.mono ?_
  rintro e w1 ⟨a, b, rfl, hb, h1, h2, h3, h4, h5⟩
  rw [tot_lE] at h1 h2
  have d1 := (HH.out.x.keep hb).cell 1
  simp only [List.getElem?_cons_zero, List.getElem?_cons_succ] at d1
  have HB := Go.Lib.hid hb
  have hab : a < 1000000 ∧ b < 1000000 := by omega
  obtain ⟨ha1, hb1⟩ := hab
  have HX : Hid (s.s.length ≤ a ∧ s.s.length ≤ b ∧ a ≤ 8 + 2 * p1 ∧ 3 * b ≤ 24 + 8 * p1) := Go.Lib.hid ⟨h1, h2, h3, h4⟩
  clear hb h1 h2 h3 h4 h5 c0
  go_wp2_with fail
  refine (HR2.out w1 HB.out).mono ?_
  rintro e w2 ⟨a', b', rfl, hb2, h1, h2, h3, h4, h5⟩
  have HB2 := Go.Lib.hid (HB.out.trans (hb2.mono HB.out.size))
  have hab2 : a' < 1000000 ∧ b' < 1000000 := by omega
  obtain ⟨ha2, hb3⟩ := hab2
  simp only [List.map_cons, List.map_nil, List.sum_cons, List.sum_nil] at h1 h2
  have HY : Hid (s.q.length ≤ a' ∧ s.q.length ≤ b' ∧ a' ≤ 8 + 2 * p2 ∧ 3 * b' ≤ 24 + 8 * p2) := Go.Lib.hid ⟨by omega, by omega, h3, h4⟩
  clear hb2 h1 h2 h3 h4 h5 d1 hl
  go_wp2_with fail
  go_ret2
  obtain ⟨x1, x2, x3, x4⟩ := HX.out
  obtain ⟨y1, y2, y3, y4⟩ := HY.out
  exact ⟨a + a', b + b', by simp, HB2.out, by omega, by omega, by omega, by omega⟩
end
/-! Of none at all. -/
set_option maxHeartbeats 400000 in
theorem lhas_nil (k : Int) (w : World) : Calls Try.prog 91 #[.pointer none, .int .u64 k] w fun e w' => e = .returned (.bool false) ∧ w = w' := by
  go_enter Try.func91, Try.ntmps91
  go_wp2_with fail
  go_ret
  exact ⟨rfl, rfl⟩
set_option maxHeartbeats 400000 in
theorem ltouch_nil (k : Int) (w : World) : Calls Try.prog 87 #[.pointer none, .int .u64 k] w fun e w' => e = .returned (.tuple #[]) ∧ w = w' := by
  go_enter Try.func87, Try.ntmps87
  go_wp2_with fail
  refine (lhas_nil k w).mono ?_
  rintro e w' ⟨rfl, rfl⟩
  go_wp2_with fail
  first | go_end0 | (refine bodyPost_ret (results_none rfl _ _ _) rfl ?_)
  exact ⟨rfl, rfl⟩
set_option maxHeartbeats 400000 in
theorem ldrop_nil (k : Int) (w : World) : Calls Try.prog 88 #[.pointer none, .int .u64 k] w fun e w' => e = .returned (.tuple #[]) ∧ w = w' := by
  go_enter Try.func88, Try.ntmps88
  go_wp2_with fail
  first | go_end0 | (refine bodyPost_ret (results_none rfl _ _ _) rfl ?_)
  exact ⟨rfl, rfl⟩
set_option maxHeartbeats 400000 in
theorem ladmit_nil (k : Int) (w : World) : Calls Try.prog 89 #[.pointer none, .int .u64 k] w fun e w' => e = .returned (.slice none 0 0) ∧ w = w' := by
  go_enter Try.func89, Try.ntmps89
  go_wp2_with fail
  go_ret
  exact ⟨rfl, rfl⟩
set_option maxHeartbeats 400000 in
theorem lresize_nil (n : Int) (w : World) : Calls Try.prog 90 #[.pointer none, .int .i64 n] w fun e w' => e = .returned (.slice none 0 0) ∧ w = w' := by
  go_enter Try.func90, Try.ntmps90
  go_wp2_with fail
  go_ret
  exact ⟨rfl, rfl⟩
set_option maxHeartbeats 400000 in
theorem lrooms_nil (w : World) : Calls Try.prog 84 #[.pointer none] w fun e w' => e = .returned (.tuple #[.int .i64 0, .int .i64 0]) ∧ w = w' := by
  go_enter Try.func84, Try.ntmps84
  go_wp2_with fail
  go_ret2
  exact ⟨rfl, rfl⟩
set_option maxHeartbeats 400000 in
theorem lghosts_nil (w : World) : Calls Try.prog 92 #[.pointer none] w fun e w' => e = .returned (.int .i64 0) ∧ w = w' := by
  go_enter Try.func92, Try.ntmps92
  go_wp2_with fail
  go_ret
  exact ⟨rfl, rfl⟩
set_option maxHeartbeats 400000 in
theorem lstate_nil (w : World) : Calls Try.prog 83 #[.pointer none] w fun e w' => e = .returned (.agg #[.int .i64 0, .slice none 0 0, .slice none 0 0]) ∧ Below w.heap.size w w' := by
  have HB := Go.Lib.hid ((Below.refl w.heap.size w).alloc (Nat.le_refl _) (.cells #[.int .i64 0, .slice none 0 0, .slice none 0 0] 88))
  go_enter Try.func83, Try.ntmps83
  go_wp2_with fail
  refine bodyPost_ret (v := .agg #[.int .i64 0, .slice none 0 0, .slice none 0 0]) (by simp [results, Try.results83, go_sem]) rfl ⟨rfl, ?_⟩
  repeat' (first | refine below_set ?_ ?_ _ | exact HB.out | omega)
set_option maxHeartbeats 800000 in
theorem lkeys_nil (w : World) : Calls Try.prog 86 #[.pointer none] w fun e w' => ∃ v, e = .returned v ∧ KL w' v [] ∧ Below w.heap.size w w' := by
  go_enter Try.func86, Try.ntmps86
  go_wp2_with fail
  refine (lstate_nil w).mono ?_
  rintro e w1 ⟨rfl, hb⟩
  have HK := Go.Lib.hid (likeys_any 0 (.slice none 0 0) (.slice none 0 0) [] [] w1 ⟨by simp, by simp⟩ (IL.nil _) (KL.nil _))
  have HB := Go.Lib.hid hb
  clear hb
  go_wp2_with fail
  refine HK.out.mono ?_
  rintro e w2 ⟨v, rfl, hk, hb2⟩
  have HK2 : Hid (KL w2 v []) := Go.Lib.hid hk
  have HB2 := Go.Lib.hid (HB.out.trans (hb2.mono HB.out.size))
  clear hk hb2
  go_wp2_with fail
  go_ret
  exact ⟨_, rfl, HK2.out, HB2.out⟩
end Go.Proofs.Ytlakojncjldpbaa
