/- A key laid to a queue's back; a queue's front key. -/
import Derived.Test.YtlakojncjldpbaaGSta
namespace Go.Proofs.Ytlakojncjldpbaa
open Go.RowKit Hop
set_option linter.unusedVariables false
set_option linter.unusedSimpArgs false
set_option maxRecDepth 100000
/-- A slot without a list, laid to a list's back. -/
theorem LG.pushB {S : List Sl} {ls : List Li} {q : List (List Int)} (G : LG S ls q) {t : Nat} (ht : t < q.length) {i : Int} (hi : isT S i = true) (h0 : (ndT S i).tag = 0) :
    LG (layS S t (lsD 0 (q.getD t [])) i 0) (st ls t (layL (lg ls t) (lsD 0 (q.getD t [])) i 0)) (q.set t (q.getD t [] ++ [i])) ∧
      (lsD 0 (q.getD t []) = 0 ∨ isT S (lsD 0 (q.getD t [])) = true) ∧
      (∀ j, isT (layS S t (lsD 0 (q.getD t [])) i 0) j = isT S j) ∧
      (∀ j, j ≠ 0 → (ndT (layS S t (lsD 0 (q.getD t [])) i 0) j).key = (ndT S j).key ∧ (ndT (layS S t (lsD 0 (q.getD t [])) i 0) j).val = (ndT S j).val ∧ (ndT (layS S t (lsD 0 (q.getD t [])) i 0) j).flag = (ndT S j).flag ∧
        (j ≠ i → (ndT (layS S t (lsD 0 (q.getD t [])) i 0) j).tag = (ndT S j).tag)) := by
  generalize hc : q.getD t [] = c
  have hs := G.seg t ht
  have hnd := G.nd t ht
  rw [hc] at hs hnd
  have hi0 := isT_ne0 hi
  have hn : lsD 0 c = 0 ∨ isT S (lsD 0 c) = true := by
    by_cases h : c = []
    · rw [h]; exact .inl rfl
    · exact .inr (seg_mem hs (lsD_mem 0 c h)).1
  have hn0 : c ≠ [] → lsD 0 c ≠ 0 := fun h => isT_ne0 (seg_mem hs (lsD_mem 0 c h)).1
  have hnc : i ∉ c := fun h => by have := (seg_mem hs h).2; omega
  have hni : lsD 0 c ≠ i := by
    intro e
    by_cases h : c = []
    · rw [h] at e; exact hi0 e.symm
    · exact hnc (e ▸ lsD_mem 0 c h)
  have hmn : c ≠ [] → lsD 0 c ∈ c := lsD_mem 0 c
  generalize hnn : lsD 0 c = n at *
  have u1 : ∀ j, isT (up S i (layN t n 0)) j = isT S j := fun j => isT_up hi
  have a1 : n = 0 ∨ isT (up S i (layN t n 0)) n = true := by rw [u1]; exact hn
  have a2 : i = 0 ∨ isT (up S i (layN t n 0)) i = true := .inr (by rw [u1]; exact hi)
  have u2 : ∀ j, isT (jS (up S i (layN t n 0)) n i) j = isT S j := fun j => by rw [jS_isT a1 a2, u1]
  have a3 : i = 0 ∨ isT (jS (up S i (layN t n 0)) n i) i = true := .inr (by rw [u2]; exact hi)
  have a4 : (0 : Int) = 0 ∨ isT (jS (up S i (layN t n 0)) n i) 0 = true := .inl rfl
  have u3 : ∀ j, isT (layS S t n i 0) j = isT S j := fun j => by unfold layS; rw [jS_isT a3 a4, u2]
  have key : ∀ j, j ≠ 0 → ndT (layS S t n i 0) j = if j = i then { ndT S i with tag := t + 1, prev := n, next := 0 } else if j = n then nextTo i (ndT S j) else ndT S j := by
    intro j hj
    unfold layS
    rw [ndT_jS a3 a4 j hj, ndT_jS a1 a2 j hj, ndT_up hi]
    by_cases e : j = i
    · subst e
      rw [if_neg (by omega : ¬ (0 : Int) = j), if_neg hni, if_pos rfl, if_pos rfl, if_pos rfl, if_pos rfl]
      rfl
    · rw [if_neg e, if_neg (by omega : ¬ i = j), if_neg (by omega : ¬ i = j), if_neg (by omega : ¬ i = j), if_neg (by omega : ¬ (0 : Int) = j)]
      by_cases e2 : j = n
      · rw [if_pos e2, if_pos e2.symm]; rfl
      · rw [if_neg e2, if_neg (fun h => e2 h.symm)]; rfl
  refine ⟨⟨?_, ?_, ?_, ?_⟩, hn, u3, ?_⟩
  · rw [st_length, List.length_set]; exact G.len
  · intro u hu
    rw [List.length_set] at hu
    rw [getD_set q t _ _ u ht]
    by_cases e : t = u
    · subst e
      rw [if_pos rfl, seg_append]
      refine ⟨?_, ?_, trivial⟩
      · refine seg_next hnd (fun x hx => ?_) hs
        have hx0 := isT_ne0 (seg_mem hs hx).1
        have hxi : x ≠ i := fun e => hnc (e ▸ hx)
        rw [u3, key x hx0, if_neg hxi, hnn]
        split
        · exact ⟨rfl, rfl, rfl, rfl⟩
        · exact ⟨rfl, rfl, rfl, rfl⟩
      · refine ⟨by rw [u3]; exact hi, ?_, ?_, ?_⟩ <;> rw [key i hi0, if_pos rfl]
        · exact hnn.symm
        · rfl
    · rw [if_neg e]
      refine seg_congr (fun x hx => ?_) (G.seg u hu)
      have hm := seg_mem (G.seg u hu) hx
      have hx0 := isT_ne0 hm.1
      have hxi : x ≠ i := by rintro rfl; omega
      have hxn : x ≠ n := by
        intro e2
        have hcne : c ≠ [] := by
          rintro rfl
          exact hx0 (e2.trans hnn.symm)
        have hmc := seg_mem hs (hmn hcne)
        rw [← e2] at hmc
        omega
      rw [u3, key x hx0, if_neg hxi, if_neg hxn]
      exact ⟨rfl, rfl, rfl, rfl⟩
  · intro u hu
    rw [List.length_set] at hu
    rw [getD_set q t _ _ u ht]
    split
    · refine List.nodup_append.2 ⟨hnd, by simp, ?_⟩
      intro x hx y hy e
      simp only [List.mem_singleton] at hy
      exact hnc (by rw [← hy, ← e]; exact hx)
    · exact G.nd u hu
  · intro u hu
    rw [List.length_set] at hu
    rw [getD_set q t _ _ u ht]
    have hul : (u : Int) < ls.length := by rw [G.len]; omega
    have htl : (t : Int) < ls.length := by rw [G.len]; omega
    show gt (st ls t _) u Li.z = _
    rw [gt_st _ _ (by omega) htl (by omega)]
    by_cases e : t = u
    · subst e
      rw [if_pos rfl, if_pos rfl, G.hd t ht, hc, lsD_append, hdD_append]
      unfold layL more jL
      simp only [if_true, if_neg hi0]
      cases c with
      | nil =>
        have : n = 0 := hnn.symm
        subst this
        simp [hdD, lsD]
      | cons y r =>
        have hn1 : n ≠ 0 := hn0 (by simp)
        simp [hdD, lsD, hn1]
    · rw [if_neg (by omega), if_neg e]
      exact G.hd u hu
  · intro j hj
    rw [key j hj]
    split
    · rename_i e; subst e; exact ⟨rfl, rfl, rfl, fun h => absurd rfl h⟩
    · split <;> exact ⟨rfl, rfl, rfl, fun _ => rfl⟩
def insB (Q : List (List En)) (t : Nat) (e : En) : List (List En) := Q.set t (Q.getD t [] ++ [e])
theorem total_insB {q : List (List Int)} {t : Nat} (ht : t < q.length) (i : Int) : total (q.set t (q.getD t [] ++ [i])) = total q + 1 := by
  have h := sum_set q t (q.getD t [] ++ [i]) ht
  simp at h ⊢
  omega
theorem inQ_insB {q : List (List Int)} {t : Nat} (ht : t < q.length) (i j : Int) : inQ (q.set t (q.getD t [] ++ [i])) j ↔ j = i ∨ inQ q j := by
  rw [inQ_set ht]
  unfold inQ
  constructor
  · rintro (h | ⟨u, hu, _, h⟩)
    · rcases List.mem_append.1 h with h | h
      · exact .inr ⟨t, ht, h⟩
      · exact .inl (by simpa using h)
    · exact .inr ⟨u, hu, h⟩
  · rintro (rfl | ⟨u, hu, h⟩)
    · exact .inl (by simp)
    · by_cases e : u = t
      · subst e; exact .inl (List.mem_append_left _ h)
      · exact .inr ⟨u, hu, e, h⟩
theorem vw_insB {S : List Sl} {q : List (List Int)} {t : Nat} (i : Int) : vw S (q.set t (q.getD t [] ++ [i])) = insB (vw S q) t (en S i) := by
  rw [vw_set, List.map_append, ← vw_getD]; rfl
theorem Good.pushB {s : St} {q : List (List Int)} {p : Nat} (G : Good s q p) {t : Nat} (ht : t < q.length) {k i : Int} (hk0 : 0 ≤ k) (hk1 : k < 18446744073709551616) (hno : ∀ j, isT s.slots j = true → (ndT s.slots j).key ≠ k)
    {S1 : List Sl} {fs1 : List Int} {nx1 : Int} (T : Took s.slots S1 i) (A1 : AI S1 fs1 nx1 (total q + 1)) {p' : Nat} (hl1 : S1.length ≤ 8 + 2 * p') (hl2 : S1.length = s.slots.length ∨ S1.length = 2 * s.slots.length) (hp : p' = max p (total q + 1)) {tab1 : List Ts} (P : Puts s.tab tab1 k i) (h4 : p < 49999) :
    let S2 := st S1 i ⟨kN k, true⟩
    let n := lsD 0 (q.getD t [])
    let S3 := layS S2 t n i 0
    isT S2 i = true ∧ (ndT S2 i).tag = 0 ∧ (lg s.lists t).back = n ∧ (n = 0 ∨ isT S2 n = true) ∧ 0 ≤ (lg s.lists t).many ∧ (lg s.lists t).many < 1000000 ∧
    Good ⟨S3, fs1, nx1, s.live + 1, st s.lists t (layL (lg s.lists t) n i 0), tab1, s.many + 1, s.queues⟩ (q.set t (q.getD t [] ++ [i])) p' ∧ vw S3 (q.set t (q.getD t [] ++ [i])) = insB (vw s.slots q) t ⟨k, 0, 0⟩ := by
  intro S2 n S3
  have hT2 : ∀ j, isT S2 j = if j = i then true else isT s.slots j := by
    intro j
    show isT (st S1 i _) j = _
    rw [isT_st T.lo T.hi, T.tk]
    split <;> rfl
  have hN2 : ∀ j, ndT S2 j = if j = i then kN k else ndT s.slots j := by
    intro j
    show ndT (st S1 i _) j = _
    rw [ndT_st T.lo T.hi, T.nd]
    split <;> rfl
  have hi2 : isT S2 i = true := by rw [hT2, if_pos rfl]
  have hnq : ∀ j, isT s.slots j = true → j ≠ i := fun j hj e => by subst e; rw [T.was] at hj; cases hj
  have L2 : LG S2 s.lists q := G.gl.other (fun x hx _ => by rw [hT2, hN2, if_neg (hnq x hx), if_neg (hnq x hx)]; exact ⟨hx, rfl, rfl, rfl⟩)
  have h0 : (ndT S2 i).tag = 0 := by rw [hN2, if_pos rfl]; rfl
  obtain ⟨L3, hn, hT3, hN3⟩ := L2.pushB ht hi2 h0
  have hlen : S2.length = S1.length := st_length _ _ _
  have hlen3 : S3.length = S1.length := (layS_length _ _ _ _ _).trans hlen
  have hd := G.gl.hd t ht
  have hlt : (q.getD t []).length ≤ total q := by
    have := sum_set q t [] ht
    simp at this ⊢
    omega
  have hb := G.b3
  have hb4 := G.b4
  have h3 : ∀ j, j ≠ 0 → (ndT S3 j).key = (if j = i then k else (ndT s.slots j).key) ∧ (ndT S3 j).val = (if j = i then 0 else (ndT s.slots j).val) ∧ (ndT S3 j).flag = (if j = i then 0 else (ndT s.slots j).flag) := by
    intro j hj
    obtain ⟨a, b, c, _⟩ := hN3 j hj
    rw [hN2] at a b c
    refine ⟨a.trans ?_, b.trans ?_, c.trans ?_⟩ <;> split <;> rfl
  have hi0 : i ≠ 0 := by have := T.lo; omega
  have hT3' : ∀ j, isT S3 j = if j = i then true else isT s.slots j := fun j => (hT3 j).trans (hT2 j)
  refine ⟨hi2, h0, by rw [hd], hn, by rw [hd]; simp, by rw [hd]; show ((q.getD t []).length : Int) < _; omega, ⟨L3, ?_, ?_, ?_, ?_, ?_, P.ti, ?_, ?_, ?_, ?_, ?_, ?_, ?_, ?_, ?_, ?_, ?_⟩, ?_⟩
  · rw [List.length_set]; exact G.qn
  · rw [List.length_set]; exact G.q8
  · intro j
    show isT S3 j = true ↔ _
    rw [hT3', inQ_insB ht]
    by_cases e : j = i
    · simp [e]
    · rw [if_neg e, G.tk]; simp [e]
  · rw [total_insB ht]
    exact A1.congr hlen3 (fun j => by rw [hT3', T.tk])
  · rw [total_insB ht]
    show s.live + 1 = _
    rw [G.lv]; rfl
  · have h2 := G.p2
    have hb2 := G.b2
    rcases P.len with ⟨h, _⟩ | ⟨h, _⟩
    · show P2 (tab1.length : Int)
      rw [h]; exact h2
    · show P2 (tab1.length : Int)
      rw [h]
      have := h2.twice (by omega)
      simpa using this
  · rw [total_insB ht]
    show cnt tab1 = _
    rw [P.cn, G.cn]
  · rw [total_insB ht]
    show s.many + 1 = _
    rw [G.mn]; rfl
  · show 4 * cnt tab1 ≤ 3 * tab1.length
    have := G.fit
    have := G.p2.pos
    rw [P.cn]
    rcases P.len with ⟨h, h'⟩ | ⟨h, h'⟩
    · omega
    · omega
  · intro k' v
    show Tin tab1 k' v ↔ isT S3 v = true ∧ (ndT S3 v).key = k'
    rw [P.ins, G.tin, hT3']
    by_cases e : v = i
    · subst e
      rw [if_pos rfl, (h3 v hi0).1, if_pos rfl, T.was]
      simp [eq_comm]
    · rw [if_neg e]
      constructor
      · rintro (⟨h1, h2⟩ | ⟨_, h⟩)
        · exact ⟨h1, by rw [(h3 v (isT_ne0 h1)).1, if_neg e]; exact h2⟩
        · exact absurd h e
      · rintro ⟨h1, h2⟩
        rw [(h3 v (isT_ne0 h1)).1, if_neg e] at h2
        exact .inl ⟨h1, h2⟩
  · intro j hj
    show 0 ≤ (ndT S3 j).key ∧ _
    have hj' : isT S3 j = true := hj
    rw [(h3 j (isT_ne0 hj')).1]
    rw [hT3'] at hj'
    split
    · exact ⟨hk0, hk1⟩
    · rename_i e
      rw [if_neg e] at hj'
      exact G.ks j hj'
  · show S3.length ≤ _
    rw [hlen3]; exact hl1
  · show 3 * tab1.length ≤ _
    have := G.b2
    have := G.cn
    rcases P.len with ⟨h, h'⟩ | ⟨h, h'⟩ <;> omega
  · rw [total_insB ht]; omega
  · omega
  · show S3.length % 8 = 0 ∧ 8 ≤ S3.length ∧ tab1.length % 8 = 0 ∧ 8 ≤ tab1.length
    rw [hlen3]
    obtain ⟨q1, q2, q3, q4⟩ := G.b5
    rcases P.len with ⟨h, h'⟩ | ⟨h, h'⟩ <;> rcases hl2 with h2 | h2 <;> omega
  · rw [vw_insB]
    have e1 : en S3 i = ⟨k, 0, 0⟩ := by
      obtain ⟨a, b, c⟩ := h3 i hi0
      unfold en
      rw [a, b, c, if_pos rfl, if_pos rfl, if_pos rfl]
    rw [e1]
    have e2 : vw S3 q = vw s.slots q := vw_congr (fun j hj => by
      have hj' := (G.tk j).2 hj
      obtain ⟨a, b, c⟩ := h3 j (isT_ne0 hj')
      rw [if_neg (hnq j hj')] at a b c
      exact en_eq a b c)
    rw [e2]
section
variable (pl pa bl ba : Nat) (S : List Sl) (ls : List Li) (f nx li : Value)
set_option maxHeartbeats 800000 in
theorem pushback_yes (t : Nat) (i : Int) (w : World) (hn : S.length < 1000000) (hls : ls.length < 100) (ht : t < ls.length) (h : LRep w pl pa bl ba S ls f nx li)
    (hi : isT S i = true) (hi0 : (ndT S i).tag = 0) (hx : (lg ls t).back = 0 ∨ isT S (lg ls t).back = true) (hm : 0 ≤ (lg ls t).many ∧ (lg ls t).many < 1000000) :
    Calls Try.prog 224 #[P0 pl, .int .i64 t, .int .i32 i] w fun e w' => e = .returned (.bool true) ∧ Fr (fun k => k = ba ∨ k = bl) w w' ∧
      LRep w' pl pa bl ba (layS S t (lg ls t).back i 0) (st ls t (layL (lg ls t) (lg ls t).back i 0)) f nx li := by
  have HI := Go.Lib.hid hi
  have HI0 := Go.Lib.hid hi0
  have HX := Go.Lib.hid hx
  have HM := Go.Lib.hid hm
  clear hi hi0 hx hm
  go_enter Try.func224, Try.ntmps224
  go_wp2_with fail
  refine (back_yes pl pa bl ba S ls f nx li t _ (by omega) ht h).mono ?_
  rintro e w' ⟨rfl, rfl⟩
  go_wp2_with fail
  refine (lay_yes pl pa bl ba S ls f nx li t (lg ls t).back i 0 _ hn hls ht h HI.out HI0.out HX.out (.inl rfl) HM.out).mono ?_
  rintro e w1 ⟨rfl, hf1, H1⟩
  go_wp2_with fail
  go_ret
  exact ⟨rfl, hf1, H1⟩
end
section
variable {L : Hop.Loc} {s : St} {q : List (List Int)} {p : Nat}
set_option maxHeartbeats 800000 in
theorem sfront_any (t : Nat) (w : World) (ht : t < q.length) (R : SRep w L s) (G : Good s q p) :
    Calls Try.prog 193 #[P0 L.ps, .int .i64 t] w fun e w' => e = .returned (.tuple #[.int .u64 (ndT s.slots (hdD 0 (q.getD t []))).key, .bool (hdD 0 (q.getD t []) != 0)]) ∧ Below w.heap.size w w' := by
  have c0 := R.hs.cell 0
  simp only [List.getElem?_cons_zero, List.getElem?_cons_succ] at c0
  have hd := G.gl.hd t ht
  have hll := G.gl.len
  have h8 := G.q8
  have hb1 := G.b1
  have hb4 := G.b4
  have hle : hdD 0 (q.getD t []) ≤ 2147483647 := by
    by_cases hn : q.getD t [] = []
    · rw [hn]; decide
    · have := isT_lt (G.gl.tag ht (hdD_mem 0 _ hn)).1
      omega
  have HB := Go.Lib.hid (front_yes L.pl L.pa L.bl L.ba s.slots s.lists L.fv (.int .i64 s.next) (.int .i64 s.live) t w (by omega) (by omega) R.lrep)
  rw [hd] at HB
  have HK := Go.Lib.hid (skey_any (L := L) (hdD 0 (q.getD t [])) w hle R G)
  clear hd hll h8 hb1 hb4 hle G
  simp only at HB
  generalize hdD 0 (q.getD t []) = b at *
  go_enter Try.func193, Try.ntmps193
  go_wp2_with fail
  refine HB.out.mono ?_
  rintro e w1 ⟨rfl, rfl⟩
  go_wp2_with fail
  refine HK.out.mono ?_
  rintro e w1 ⟨rfl, hb⟩
  go_wp2_with fail
  go_ret2
  exact ⟨rfl, hb⟩
end
section
variable {ps : Nat} {O : Nat → Prop} {Q : List (List En)} {p : Nat}
theorem pushback_sta (t : Nat) (k : Int) (w : World) (hk0 : 0 ≤ k) (hk1 : k < 18446744073709551616) (ht : t < Q.length) (hp : p < 49999) (hno : ¬ hasK Q k) (H : Sta w ps O Q p) :
    Calls Try.prog 191 #[P0 ps, .int .i64 t, .int .u64 k] w fun e w' => e = .returned (.bool true) ∧ ∃ O', Sta w' ps O' (insB Q t ⟨k, 0, 0⟩) (max p (tot Q + 1)) ∧ Chg O O' w w' := by
  obtain ⟨L, s, q, rfl, rfl, R, G, rfl⟩ := H
  have ht' : t < q.length := by unfold vw at ht; rwa [List.length_map] at ht
  have hno' : ∀ j, isT s.slots j = true → (ndT s.slots j).key ≠ k := fun j hj hk => hno ((hasK_vw G k).2 ⟨j, hj, hk⟩)
  have hll := G.gl.len
  have h8 := G.q8
  have hb1 := G.b1
  have hb3 := G.b3
  rw [tot_vw]
  have PA := push_any (L := L) 224 t k w (fun w' => ∃ O', Sta w' L.ps O' (insB (vw s.slots q) t ⟨k, 0, 0⟩) (max p (total q + 1)) ∧ Chg L.has O' w w') (by intro args W; kernel_rfl) hk0 hk1 ht' R G hno' (by
    intro w1 i S1 fs1 nx1 fv1 ba1 bt1 tab1 M
    have hl1 : S1.length ≤ 8 + 2 * (max p (total q + 1)) := by
      rcases M.len with h | ⟨h, h'⟩ <;> omega
    obtain ⟨g1, g2, g3, g4, g5, g6, G', gv⟩ := G.pushB ht' hk0 hk1 hno' M.tk M.ai hl1 (M.len.imp id And.left) rfl M.puts hp
    rw [← g3] at G' gv g4
    refine (pushback_yes L.pl L.pa L.bl ba1 _ s.lists _ _ _ t i w1 (by rw [st_length]; omega) (by omega) (by omega) M.rep.lrep g1 g2 g4 ⟨g5, g6⟩).mono ?_
    rintro e w' ⟨rfl, hf, H'⟩
    have R' := M.rep.relist hf H'
    refine ⟨rfl, _, ⟨{ L with ba := ba1, bt := bt1, fv := fv1 }, _, _, rfl, rfl, R', G', gv⟩, ?_, ?_⟩
    · refine M.fr.trans hf ?_
      rintro j (rfl | rfl)
      · rcases M.oba with h | h
        · exact .inl (by simp [Hop.Loc.has, h])
        · exact .inr h
      · exact .inl (by simp [Hop.Loc.has])
    · rintro j (h | h | h | h | h | h | h | h)
      · exact .inl (.inl h)
      · exact .inl (.inr (.inl h))
      · exact .inl (.inr (.inr (.inl h)))
      · exact .inl (.inr (.inr (.inr (.inl h))))
      · exact .inl (.inr (.inr (.inr (.inr (.inl h)))))
      · rcases M.oba with h' | h'
        · exact .inl (.inr (.inr (.inr (.inr (.inr (.inl (h.trans h')))))))
        · exact .inr (by rw [h]; exact h')
      · rcases M.obt with h' | h'
        · exact .inl (.inr (.inr (.inr (.inr (.inr (.inr (.inl (h.trans h'))))))))
        · exact .inr (by rw [h]; exact h')
      · exact .inl (.inr (.inr (.inr (.inr (.inr (.inr (.inr (M.own.symm.trans h)))))))))
  have HPA := Go.Lib.hid PA
  clear PA G R hno hno' hll h8 hb1 hb3
  go_enter Try.func191, Try.ntmps191
  go_wp2_with fail
  refine HPA.out.mono ?_
  rintro e w' ⟨rfl, hQ⟩
  have HQ := Go.Lib.hid hQ
  clear hQ
  go_wp2_with fail
  go_ret
  exact ⟨rfl, HQ.out⟩
theorem front_sta (t : Nat) (w : World) (ht : t < Q.length) (H : Sta w ps O Q p) :
    Calls Try.prog 193 #[P0 ps, .int .i64 t] w fun e w' => ∃ (k : Int) (ok : Bool), e = .returned (.tuple #[.int .u64 k, .bool ok]) ∧ Below w.heap.size w w' ∧
      ((ok = false ∧ k = 0 ∧ Q.getD t [] = []) ∨ (ok = true ∧ ∃ e l, Q.getD t [] = e :: l ∧ k = e.key)) := by
  obtain ⟨L, s, q, rfl, rfl, R, G, rfl⟩ := H
  have ht' : t < q.length := by unfold vw at ht; rwa [List.length_map] at ht
  refine (sfront_any t w ht' R G).mono ?_
  rintro e w' ⟨rfl, hb⟩
  refine ⟨_, _, rfl, hb, ?_⟩
  rw [vw_getD]
  cases h : q.getD t [] with
  | nil => exact .inl ⟨rfl, rfl, rfl⟩
  | cons x l =>
    have hx := isT_ne0 (G.gl.tag ht' (by rw [h]; simp : x ∈ q.getD t [])).1
    refine .inr ⟨by simp [hdD, hx], en s.slots x, l.map (en s.slots), by simp, rfl⟩
end
end Go.Proofs.Ytlakojncjldpbaa
