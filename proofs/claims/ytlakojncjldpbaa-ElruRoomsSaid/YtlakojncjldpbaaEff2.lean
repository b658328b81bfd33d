/- What the store's acts do to a store that is as it should be. No program in sight. -/
import Derived.Test.YtlakojncjldpbaaEff
namespace Go.Proofs.Ytlakojncjldpbaa
open Go.RowKit Hop
set_option linter.unusedVariables false
set_option linter.unusedSimpArgs false
def kN (k : Int) : Nd := ⟨k, 0, 0, 0, 0, 0⟩
theorem outS_length (S : List Sl) (i : Int) : (outS S i).length = S.length := by unfold outS; rw [up_length, jS_length]
theorem layS_length (S : List Sl) (t p i n : Int) : (layS S t p i n).length = S.length := by unfold layS; rw [jS_length, jS_length, up_length]
theorem Good.ne0 {s : St} {q : List (List Int)} {p : Nat} (G : Good s q p) {i : Int} (h : inQ q i) : i ≠ 0 := isT_ne0 ((G.tk i).2 h)
/-- A slot taken, its key laid, and laid to a queue's front. -/
theorem Good.push {s : St} {q : List (List Int)} {p : Nat} (G : Good s q p) {t : Nat} (ht : t < q.length) {k i : Int} (hk0 : 0 ≤ k) (hk1 : k < 18446744073709551616) (hno : ∀ j, isT s.slots j = true → (ndT s.slots j).key ≠ k)
    {S1 : List Sl} {fs1 : List Int} {nx1 : Int} (T : Took s.slots S1 i) (A1 : AI S1 fs1 nx1 (total q + 1)) {p' : Nat} (hl1 : S1.length ≤ 8 + 2 * p') (hl2 : S1.length = s.slots.length ∨ S1.length = 2 * s.slots.length) (hp : p' = max p (total q + 1)) {tab1 : List Ts} (P : Puts s.tab tab1 k i) (h4 : p < 49999) :
    let S2 := st S1 i ⟨kN k, true⟩
    let n := hdD 0 (q.getD t [])
    let S3 := layS S2 t 0 i n
    isT S2 i = true ∧ (ndT S2 i).tag = 0 ∧ (lg s.lists t).front = n ∧ (n = 0 ∨ isT S2 n = true) ∧ 0 ≤ (lg s.lists t).many ∧ (lg s.lists t).many < 1000000 ∧
    Good ⟨S3, fs1, nx1, s.live + 1, st s.lists t (layL (lg s.lists t) 0 i n), tab1, s.many + 1, s.queues⟩ (q.set t (i :: q.getD t [])) p' ∧ vw S3 (q.set t (i :: q.getD t [])) = ins (vw s.slots q) t ⟨k, 0, 0⟩ := by
  intro S2 n S3
  have hT2 : ∀ j, isT S2 j = if j = i then true else isT s.slots j := by
    intro j
    show isT (st S1 i _) j = _
    rw [isT_st T.lo T.hi, T.tk]
    split <;> rfl
  have hN2 : ∀ j, ndT S2 j = if j = i then kN k else ndT s.slots j := by
    intro j
    show ndT (st S1 i _) j = _
    rw [ndT_st T.lo T.hi, T.nd]
    split <;> rfl
  have hi2 : isT S2 i = true := by rw [hT2, if_pos rfl]
  have hnq : ∀ j, isT s.slots j = true → j ≠ i := fun j hj e => by subst e; rw [T.was] at hj; cases hj
  have L2 : LG S2 s.lists q := G.gl.other (fun x hx _ => by rw [hT2, hN2, if_neg (hnq x hx), if_neg (hnq x hx)]; exact ⟨hx, rfl, rfl, rfl⟩)
  have h0 : (ndT S2 i).tag = 0 := by rw [hN2, if_pos rfl]; rfl
  obtain ⟨L3, hn, hT3, hN3⟩ := L2.push ht hi2 h0
  have hlen : S2.length = S1.length := st_length _ _ _
  have hlen3 : S3.length = S1.length := (layS_length _ _ _ _ _).trans hlen
  have hd := G.gl.hd t ht
  have hlt : (q.getD t []).length ≤ total q := by
    have := sum_set q t [] ht
    simp at this ⊢
    omega
  have hb := G.b3
  have hb4 := G.b4
  have h3 : ∀ j, j ≠ 0 → (ndT S3 j).key = (if j = i then k else (ndT s.slots j).key) ∧ (ndT S3 j).val = (if j = i then 0 else (ndT s.slots j).val) ∧ (ndT S3 j).flag = (if j = i then 0 else (ndT s.slots j).flag) := by
    intro j hj
    obtain ⟨a, b, c, _⟩ := hN3 j hj
    rw [hN2] at a b c
    refine ⟨a.trans ?_, b.trans ?_, c.trans ?_⟩ <;> split <;> rfl
  have hi0 : i ≠ 0 := by have := T.lo; omega
  have hT3' : ∀ j, isT S3 j = if j = i then true else isT s.slots j := fun j => (hT3 j).trans (hT2 j)
  refine ⟨hi2, h0, by rw [hd], hn, by rw [hd]; simp, by rw [hd]; show ((q.getD t []).length : Int) < _; omega, ⟨L3, ?_, ?_, ?_, ?_, ?_, P.ti, ?_, ?_, ?_, ?_, ?_, ?_, ?_, ?_, ?_, ?_, ?_⟩, ?_⟩
  · rw [List.length_set]; exact G.qn
  · rw [List.length_set]; exact G.q8
  · intro j
    show isT S3 j = true ↔ _
    rw [hT3', inQ_ins ht]
    by_cases e : j = i
    · simp [e]
    · rw [if_neg e, G.tk]; simp [e]
  · rw [total_ins ht]
    exact A1.congr hlen3 (fun j => by rw [hT3', T.tk])
  · rw [total_ins ht]
    show s.live + 1 = _
    rw [G.lv]; rfl
  · have h2 := G.p2
    have hb2 := G.b2
    rcases P.len with ⟨h, _⟩ | ⟨h, _⟩
    · show P2 (tab1.length : Int)
      rw [h]; exact h2
    · show P2 (tab1.length : Int)
      rw [h]
      have := h2.twice (by omega)
      simpa using this
  · rw [total_ins ht]
    show cnt tab1 = _
    rw [P.cn, G.cn]
  · rw [total_ins ht]
    show s.many + 1 = _
    rw [G.mn]; rfl
  · show 4 * cnt tab1 ≤ 3 * tab1.length
    have := G.fit
    have := G.p2.pos
    rw [P.cn]
    rcases P.len with ⟨h, h'⟩ | ⟨h, h'⟩
    · omega
    · omega
  · intro k' v
    show Tin tab1 k' v ↔ isT S3 v = true ∧ (ndT S3 v).key = k'
    rw [P.ins, G.tin, hT3']
    by_cases e : v = i
    · subst e
      rw [if_pos rfl, (h3 v hi0).1, if_pos rfl, T.was]
      simp [eq_comm]
    · rw [if_neg e]
      constructor
      · rintro (⟨h1, h2⟩ | ⟨_, h⟩)
        · exact ⟨h1, by rw [(h3 v (isT_ne0 h1)).1, if_neg e]; exact h2⟩
        · exact absurd h e
      · rintro ⟨h1, h2⟩
        rw [(h3 v (isT_ne0 h1)).1, if_neg e] at h2
        exact .inl ⟨h1, h2⟩
  · intro j hj
    show 0 ≤ (ndT S3 j).key ∧ _
    have hj' : isT S3 j = true := hj
    rw [(h3 j (isT_ne0 hj')).1]
    rw [hT3'] at hj'
    split
    · exact ⟨hk0, hk1⟩
    · rename_i e
      rw [if_neg e] at hj'
      exact G.ks j hj'
  · show S3.length ≤ _
    rw [hlen3]; exact hl1
  · show 3 * tab1.length ≤ _
    have := G.b2
    have := G.cn
    rcases P.len with ⟨h, h'⟩ | ⟨h, h'⟩ <;> omega
  · rw [total_ins ht]; omega
  · omega
  · show S3.length % 8 = 0 ∧ 8 ≤ S3.length ∧ tab1.length % 8 = 0 ∧ 8 ≤ tab1.length
    rw [hlen3]
    obtain ⟨q1, q2, q3, q4⟩ := G.b5
    rcases P.len with ⟨h, h'⟩ | ⟨h, h'⟩ <;> rcases hl2 with h2 | h2 <;> omega
  · rw [vw_ins]
    have e1 : en S3 i = ⟨k, 0, 0⟩ := by
      obtain ⟨a, b, c⟩ := h3 i hi0
      unfold en
      rw [a, b, c, if_pos rfl, if_pos rfl, if_pos rfl]
    rw [e1]
    have e2 : vw S3 q = vw s.slots q := vw_congr (fun j hj => by
      have hj' := (G.tk j).2 hj
      obtain ⟨a, b, c⟩ := h3 j (isT_ne0 hj')
      rw [if_neg (hnq j hj')] at a b c
      exact en_eq a b c)
    rw [e2]
theorem Good.keyone {s : St} {q : List (List Int)} {p : Nat} (G : Good s q p) {i : Int} (hi : isT s.slots i = true) : ∀ j, inQ q j → ((ndT s.slots j).key = (ndT s.slots i).key ↔ j = i) :=
  fun j hj => ⟨fun h => G.one ((G.tk j).2 hj) hi h, fun e => by rw [e]⟩
/-- A slot taken out of its list. -/
theorem Good.outOf {s : St} {q : List (List Int)} {p : Nat} (G : Good s q p) {u : Nat} (hu : u < q.length) {i : Int} (hi : i ∈ q.getD u []) :
    isT s.slots i = true ∧ (ndT s.slots i).tag = u + 1 ∧ ((ndT s.slots i).prev = 0 ∨ isT s.slots (ndT s.slots i).prev = true) ∧ ((ndT s.slots i).next = 0 ∨ isT s.slots (ndT s.slots i).next = true) ∧ 0 < (lg s.lists u).many ∧ (lg s.lists u).many < 1000000 := by
  obtain ⟨h1, h2⟩ := G.gl.tag hu hi
  obtain ⟨_, hp, hx, _⟩ := G.gl.take hu hi
  have hd := G.gl.hd u hu
  have h3 : 0 < (q.getD u []).length := List.length_pos_of_mem hi
  have hlt : (q.getD u []).length ≤ total q := by
    have := sum_set q u [] hu
    simp at this ⊢
    omega
  have hb := G.b3
  have hb4 := G.b4
  refine ⟨h1, h2, hp, hx, ?_, ?_⟩ <;> rw [hd]
  · show (0 : Int) < (q.getD u []).length; omega
  · show ((q.getD u []).length : Int) < _; omega
/-- A slot is taken out of its list, and freed; its key goes too. -/
theorem Good.remove {s : St} {q : List (List Int)} {p : Nat} (G : Good s q p) {u : Nat} (hu : u < q.length) {i : Int} (hi : i ∈ q.getD u []) {tab1 : List Ts} (D : Dels s.tab tab1 (ndT s.slots i).key) :
    let S1 := outS s.slots i
    isT S1 i = true ∧ 0 < s.live ∧ s.live < 1000000 ∧ s.freed.length < 1000000 ∧
    Good ⟨st S1 i Sl.z, s.freed ++ [i], s.next, s.live - 1, st s.lists u (outL s.slots (lg s.lists u) i), tab1, s.many - 1, s.queues⟩ (q.set u ((q.getD u []).erase i)) p ∧ vw (st S1 i Sl.z) (q.set u ((q.getD u []).erase i)) = del (vw s.slots q) (ndT s.slots i).key := by
  intro S1
  obtain ⟨h1, h2⟩ := G.gl.tag hu hi
  obtain ⟨L1, _, _, hT1, hN1, hz⟩ := G.gl.take hu hi
  have htt := total_take G.gl hu hi
  have hiq := inQ_take G.gl hu hi
  have hT1i : isT S1 i = true := (hT1 i).trans h1
  have A1 : AI S1 s.freed s.next (total (q.set u ((q.getD u []).erase i)) + 1) := by
    rw [htt]; exact G.ai.congr (outS_length _ _) hT1
  obtain ⟨A2, hT2, hN2⟩ := A1.free hT1i
  have hT2' : ∀ j, isT (st S1 i Sl.z) j = if j = i then false else isT s.slots j := by
    intro j
    rw [hT2]
    split
    · rfl
    · exact hT1 j
  have L2 : LG (st S1 i Sl.z) (st s.lists u (outL s.slots (lg s.lists u) i)) (q.set u ((q.getD u []).erase i)) := L1.other (fun x hx hx0 => by
    have hne : x ≠ i := fun e => hx0 (by rw [e]; exact hz)
    rw [hT2, if_neg hne, hN2 x hne]
    exact ⟨hx, rfl, rfl, rfl⟩)
  have h3 : ∀ j, j ≠ 0 → j ≠ i → (ndT (st S1 i Sl.z) j).key = (ndT s.slots j).key ∧ (ndT (st S1 i Sl.z) j).val = (ndT s.slots j).val ∧ (ndT (st S1 i Sl.z) j).flag = (ndT s.slots j).flag := by
    intro j hj hne
    rw [hN2 j hne]
    obtain ⟨a, b, c, _⟩ := hN1 j hj
    exact ⟨a, b, c⟩
  have hlv := G.lv
  have hb3 := G.b3
  have hb4 := G.b4
  have hai := G.ai.cn
  have hai2 := G.ai.hi
  have hb1 := G.b1
  have hcn := D.cn
  have hgc := G.cn
  refine ⟨hT1i, by omega, by omega, by omega, ⟨L2, ?_, ?_, ?_, A2, ?_, D.ti, ?_, ?_, ?_, ?_, ?_, ?_, ?_, ?_, ?_, hb4, ?_⟩, ?_⟩
  · rw [List.length_set]; exact G.qn
  · rw [List.length_set]; exact G.q8
  · intro j
    show isT (st S1 i Sl.z) j = true ↔ _
    rw [hT2', hiq, ← G.tk]
    by_cases e : j = i
    · simp [e]
    · simp [e]
  · show s.live - 1 = _
    omega
  · show P2 (tab1.length : Int)
    rw [D.len]; exact G.p2
  · show cnt tab1 = _
    omega
  · show s.many - 1 = _
    have := G.mn
    omega
  · show 4 * cnt tab1 ≤ 3 * tab1.length
    have := G.fit
    have := D.len
    omega
  · intro k' v
    show Tin tab1 k' v ↔ isT (st S1 i Sl.z) v = true ∧ (ndT (st S1 i Sl.z) v).key = k'
    rw [D.ins, G.tin, hT2']
    by_cases e : v = i
    · subst e
      rw [if_pos rfl]
      constructor
      · rintro ⟨⟨_, h⟩, h'⟩; exact absurd h.symm h'
      · rintro ⟨h, _⟩; cases h
    · rw [if_neg e]
      constructor
      · rintro ⟨⟨a, b⟩, c⟩; exact ⟨a, by rw [(h3 v (isT_ne0 a) e).1]; exact b⟩
      · rintro ⟨a, b⟩
        rw [(h3 v (isT_ne0 a) e).1] at b
        exact ⟨⟨a, b⟩, fun h => e (G.one a h1 (by rw [b, h]))⟩
  · intro j hj
    have hj' : isT (st S1 i Sl.z) j = true := hj
    rw [hT2'] at hj'
    split at hj'
    · cases hj'
    · rename_i e
      show 0 ≤ (ndT (st S1 i Sl.z) j).key ∧ (ndT (st S1 i Sl.z) j).key < _
      rw [(h3 j (isT_ne0 hj') e).1]
      exact G.ks j hj'
  · show (st S1 i Sl.z).length ≤ _
    rw [st_length, outS_length]; exact G.b1
  · show 3 * tab1.length ≤ _
    rw [D.len]; exact G.b2
  · show total _ ≤ p
    omega
  · show (st S1 i Sl.z).length % 8 = 0 ∧ 8 ≤ (st S1 i Sl.z).length ∧ tab1.length % 8 = 0 ∧ 8 ≤ tab1.length
    rw [st_length, outS_length, D.len]
    exact G.b5
  · have e2 : vw (st S1 i Sl.z) (q.set u ((q.getD u []).erase i)) = vw s.slots (q.set u ((q.getD u []).erase i)) := vw_congr (fun j hj => by
      obtain ⟨hj1, hj2⟩ := (hiq j).1 hj
      obtain ⟨a, b, c⟩ := h3 j (G.ne0 hj1) hj2
      exact en_eq a b c)
    rw [e2, G.gl.out_map hu hi]
    exact vw_del (G.keyone h1)
/-- A slot is moved to a queue's front. -/
theorem Good.move {s : St} {q : List (List Int)} {p : Nat} (G : Good s q p) {u : Nat} (hu : u < q.length) {i : Int} (hi : i ∈ q.getD u []) {t : Nat} (ht : t < q.length) :
    let S1 := outS s.slots i
    let l1 := st s.lists u (outL s.slots (lg s.lists u) i)
    let n := (lg l1 t).front
    let S2 := layS S1 t 0 i n
    let q2 := ((q.set u ((q.getD u []).erase i))).set t (i :: ((q.set u ((q.getD u []).erase i))).getD t [])
    isT S1 i = true ∧ (ndT S1 i).tag = 0 ∧ (n = 0 ∨ isT S1 n = true) ∧ 0 ≤ (lg l1 t).many ∧ (lg l1 t).many < 1000000 ∧
    Good { s with slots := S2, lists := st l1 t (layL (lg l1 t) 0 i n) } q2 p ∧ vw S2 q2 = ins (del (vw s.slots q) (ndT s.slots i).key) t (en s.slots i) := by
  intro S1 l1 n S2 q2
  obtain ⟨h1, h2⟩ := G.gl.tag hu hi
  obtain ⟨L1, _, _, hT1, hN1, hz⟩ := G.gl.take hu hi
  have htt := total_take G.gl hu hi
  have hiq := inQ_take G.gl hu hi
  have hT1i : isT S1 i = true := (hT1 i).trans h1
  have ht1 : t < (q.set u ((q.getD u []).erase i)).length := by rw [List.length_set]; exact ht
  have hd := L1.hd t ht1
  have hnn : n = hdD 0 ((q.set u ((q.getD u []).erase i)).getD t []) := by show (lg l1 t).front = _; rw [hd]
  obtain ⟨L2, hn, hT2, hN2⟩ := L1.push ht1 hT1i hz
  rw [← hnn] at L2 hn hT2 hN2
  have hi0 := isT_ne0 h1
  have hT : ∀ j, isT S2 j = isT s.slots j := fun j => (hT2 j).trans (hT1 j)
  have h3 : ∀ j, j ≠ 0 → (ndT S2 j).key = (ndT s.slots j).key ∧ (ndT S2 j).val = (ndT s.slots j).val ∧ (ndT S2 j).flag = (ndT s.slots j).flag := by
    intro j hj
    obtain ⟨a, b, c, _⟩ := hN1 j hj
    obtain ⟨a', b', c', _⟩ := hN2 j hj
    exact ⟨a'.trans a, b'.trans b, c'.trans c⟩
  have hb3 := G.b3
  have hb4 := G.b4
  have hlt : ((q.set u ((q.getD u []).erase i)).getD t []).length ≤ total (q.set u ((q.getD u []).erase i)) := by
    have := sum_set (q.set u ((q.getD u []).erase i)) t [] ht1
    simp at this ⊢
    omega
  refine ⟨hT1i, hz, hn, ?_, ?_, ?_, ?_⟩
  · show 0 ≤ (lg l1 t).many
    rw [hd]; simp
  · show (lg l1 t).many < 1000000
    rw [hd]
    show (((q.set u ((q.getD u []).erase i)).getD t []).length : Int) < _
    omega
  · refine G.redo L2 ((layS_length _ _ _ _ _).trans (outS_length _ _)) ?_ ?_ ?_ hT (fun j hj => (h3 j (isT_ne0 hj)).1)
    · rw [List.length_set, List.length_set]
    · rw [total_ins ht1, htt]
    · intro j
      rw [inQ_ins ht1, hiq]
      constructor
      · rintro (rfl | ⟨h, _⟩)
        · exact ⟨u, hu, hi⟩
        · exact h
      · intro h
        by_cases e : j = i
        · exact .inl e
        · exact .inr ⟨h, e⟩
  · show vw S2 ((q.set u ((q.getD u []).erase i)).set t (i :: ((q.set u ((q.getD u []).erase i))).getD t [])) = _
    rw [vw_ins]
    have e1 : en S2 i = en s.slots i := by
      obtain ⟨a, b, c⟩ := h3 i hi0
      exact en_eq a b c
    have e2 : vw S2 (q.set u ((q.getD u []).erase i)) = vw s.slots (q.set u ((q.getD u []).erase i)) := vw_congr (fun j hj => by
      obtain ⟨a, b, c⟩ := h3 j (G.ne0 ((hiq j).1 hj).1)
      exact en_eq a b c)
    rw [e1, e2, G.gl.out_map hu hi, vw_del (G.keyone h1)]
end Go.Proofs.Ytlakojncjldpbaa
