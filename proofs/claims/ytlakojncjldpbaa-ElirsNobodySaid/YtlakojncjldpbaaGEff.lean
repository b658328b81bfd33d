/- What the store's acts do, as lists of entries. No program in sight. -/
import Derived.Test.YtlakojncjldpbaaGNews
import Derived.Test.YtlakojncjldpbaaGAlloc
import Derived.Test.YtlakojncjldpbaaTDel
namespace Go.Proofs.Ytlakojncjldpbaa
open Go.RowKit Hop
set_option linter.unusedVariables false
set_option linter.unusedSimpArgs false
def vw (S : List Sl) (q : List (List Int)) : List (List En) := q.map (List.map (en S))
def del (Q : List (List En)) (k : Int) : List (List En) := Q.map (List.filter (fun e => decide (e.key ≠ k)))
def ins (Q : List (List En)) (t : Nat) (e : En) : List (List En) := Q.set t (e :: Q.getD t [])
theorem vw_getD (S : List Sl) (q : List (List Int)) (t : Nat) : (vw S q).getD t [] = (q.getD t []).map (en S) := by
  unfold vw
  simp only [List.getD_eq_getElem?_getD, List.getElem?_map]
  cases q[t]? <;> rfl
theorem inQ_mem {q : List (List Int)} {i : Int} : inQ q i ↔ ∃ l ∈ q, i ∈ l := by
  unfold inQ
  constructor
  · rintro ⟨t, ht, h⟩
    rw [List.getD_eq_getElem?_getD, List.getElem?_eq_getElem ht] at h
    exact ⟨q[t], List.getElem_mem ht, h⟩
  · rintro ⟨l, hl, h⟩
    obtain ⟨t, ht, rfl⟩ := List.getElem_of_mem hl
    exact ⟨t, ht, by rw [List.getD_eq_getElem?_getD, List.getElem?_eq_getElem ht]; exact h⟩
theorem vw_congr {S S' : List Sl} {q : List (List Int)} (h : ∀ i, inQ q i → en S' i = en S i) : vw S' q = vw S q := by
  unfold vw
  exact List.map_congr_left (fun l hl => List.map_congr_left (fun i hi => h i (inQ_mem.2 ⟨l, hl, hi⟩)))
theorem vw_set (S : List Sl) (q : List (List Int)) (t : Nat) (c : List Int) : vw S (q.set t c) = (vw S q).set t (c.map (en S)) := by
  unfold vw
  rw [List.map_set]
theorem en_eq {S S' : List Sl} {i : Int} (h1 : (ndT S' i).key = (ndT S i).key) (h2 : (ndT S' i).val = (ndT S i).val) (h3 : (ndT S' i).flag = (ndT S i).flag) : en S' i = en S i := by
  unfold en; rw [h1, h2, h3]
theorem LG.tag {S : List Sl} {ls : List Li} {q : List (List Int)} (G : LG S ls q) {t : Nat} (ht : t < q.length) {i : Int} (hi : i ∈ q.getD t []) : isT S i = true ∧ (ndT S i).tag = t + 1 := seg_mem (G.seg t ht) hi
theorem LG.uniq {S : List Sl} {ls : List Li} {q : List (List Int)} (G : LG S ls q) {t u : Nat} (ht : t < q.length) (hu : u < q.length) {i : Int} (hi : i ∈ q.getD t []) (hj : i ∈ q.getD u []) : t = u := by
  have a := (G.tag ht hi).2
  have b := (G.tag hu hj).2
  omega
/-- Lists and nodes are others; slots taken, keys and all else stay. -/
theorem Good.redo {s : St} {q q' : List (List Int)} {p : Nat} (G : Good s q p) {S' : List Sl} {ls' : List Li} (L : LG S' ls' q') (hl : S'.length = s.slots.length) (hq : q'.length = q.length) (ht : total q' = total q)
    (hi : ∀ i, inQ q' i ↔ inQ q i) (hT : ∀ i, isT S' i = isT s.slots i) (hk : ∀ i, isT s.slots i = true → (ndT S' i).key = (ndT s.slots i).key) : Good { s with slots := S', lists := ls' } q' p := by
  obtain ⟨gl, qn, q8, tk, ai, lv, ti, p2, cn, mn, fit, tin, ks, b1, b2, b3, b4, b5⟩ := G
  refine ⟨L, by rw [hq]; exact qn, by rw [hq]; exact q8, fun i => ?_, ?_, by rw [ht]; exact lv, ti, p2, by rw [ht]; exact cn, by rw [ht]; exact mn, fit, fun k v => ?_, fun i hi' => ?_, ?_, b2, by rw [ht]; exact b3, b4, ?_⟩
  · show isT S' i = true ↔ _
    rw [hT, hi]; exact tk i
  · show AI S' _ _ _
    rw [ht]; exact ai.congr hl hT
  · show _ ↔ isT S' v = true ∧ (ndT S' v).key = k
    rw [tin, hT]
    constructor
    · rintro ⟨h1, h2⟩; exact ⟨h1, by rw [hk v h1]; exact h2⟩
    · rintro ⟨h1, h2⟩; exact ⟨h1, by rw [← hk v h1]; exact h2⟩
  · have h1 : isT s.slots i = true := by rw [← hT]; exact hi'
    show 0 ≤ (ndT S' i).key ∧ _
    rw [hk i h1]; exact ks i h1
  · show S'.length ≤ _
    rw [hl]; exact b1
  · show S'.length % 8 = 0 ∧ 8 ≤ S'.length ∧ _
    rw [hl]; exact b5
theorem total_nil_iff (q : List (List Int)) : total q = q.flatten.length := by unfold total; rw [List.length_flatten]
/-- A queue without one: the others stay. -/
theorem LG.out_map {S : List Sl} {ls : List Li} {q : List (List Int)} (G : LG S ls q) {t : Nat} (ht : t < q.length) {i : Int} (hi : i ∈ q.getD t []) : q.set t ((q.getD t []).erase i) = q.map (List.filter (fun j => decide (j ≠ i))) := by
  refine List.ext_getElem (by simp) (fun u h1 h2 => ?_)
  rw [List.length_set] at h1
  rw [List.getElem_map, List.getElem_set]
  split
  · rename_i e
    subst e
    have e2 : q.getD t [] = q[t] := by rw [List.getD_eq_getElem?_getD, List.getElem?_eq_getElem ht]; rfl
    have hnd := G.nd t ht
    rw [e2] at hi hnd ⊢
    rw [hnd.erase_eq_filter]
    exact List.filter_congr (fun x _ => by by_cases e : x = i <;> simp [e])
  · rename_i e
    refine (List.filter_eq_self.2 (fun x hx => ?_)).symm
    have e2 : q.getD u [] = q[u] := by rw [List.getD_eq_getElem?_getD, List.getElem?_eq_getElem h1]; rfl
    have hxu : x ∈ q.getD u [] := by rw [e2]; exact hx
    simp only [decide_eq_true_eq]
    rintro rfl
    exact e (G.uniq ht (by simpa using h1) hi hxu)
theorem vw_del {S : List Sl} {q : List (List Int)} {i k : Int} (hk : ∀ j, inQ q j → ((ndT S j).key = k ↔ j = i)) : vw S (q.map (List.filter (fun j => decide (j ≠ i)))) = del (vw S q) k := by
  unfold vw del
  rw [List.map_map, List.map_map]
  refine List.map_congr_left (fun l hl => ?_)
  simp only [Function.comp]
  rw [List.filter_map]
  congr 1
  refine List.filter_congr (fun j hj => ?_)
  have := hk j (inQ_mem.2 ⟨l, hl, hj⟩)
  simp only [Function.comp, en]
  by_cases e : j = i
  · have h : (ndT S j).key = k := this.2 e
    simp [e, ← h]
  · have h : ¬ (ndT S j).key = k := fun h => e (this.1 h)
    simp [e, h]
theorem total_take {S : List Sl} {ls : List Li} {q : List (List Int)} (G : LG S ls q) {t : Nat} (ht : t < q.length) {i : Int} (hi : i ∈ q.getD t []) : total (q.set t ((q.getD t []).erase i)) + 1 = total q := by
  have h := sum_set q t ((q.getD t []).erase i) ht
  have h2 := List.length_erase_of_mem hi
  have h3 : 0 < (q.getD t []).length := List.length_pos_of_mem hi
  omega
theorem inQ_take {S : List Sl} {ls : List Li} {q : List (List Int)} (G : LG S ls q) {t : Nat} (ht : t < q.length) {i : Int} (hi : i ∈ q.getD t []) (j : Int) : inQ (q.set t ((q.getD t []).erase i)) j ↔ inQ q j ∧ j ≠ i := by
  rw [G.out_map ht hi, inQ_mem, inQ_mem]
  constructor
  · rintro ⟨l, hl, h⟩
    obtain ⟨l0, h0, rfl⟩ := List.mem_map.1 hl
    obtain ⟨h1, h2⟩ := List.mem_filter.1 h
    exact ⟨⟨l0, h0, h1⟩, by simpa using h2⟩
  · rintro ⟨⟨l, hl, h⟩, hne⟩
    exact ⟨_, List.mem_map_of_mem hl, List.mem_filter.2 ⟨h, by simpa using hne⟩⟩
theorem total_ins {q : List (List Int)} {t : Nat} (ht : t < q.length) (i : Int) : total (q.set t (i :: q.getD t [])) = total q + 1 := by
  have h := sum_set q t (i :: q.getD t []) ht
  simp at h ⊢
  omega
theorem inQ_ins {q : List (List Int)} {t : Nat} (ht : t < q.length) (i j : Int) : inQ (q.set t (i :: q.getD t [])) j ↔ j = i ∨ inQ q j := by
  rw [inQ_set ht]
  unfold inQ
  constructor
  · rintro (h | ⟨u, hu, _, h⟩)
    · rcases List.mem_cons.1 h with h | h
      · exact .inl h
      · exact .inr ⟨t, ht, h⟩
    · exact .inr ⟨u, hu, h⟩
  · rintro (rfl | ⟨u, hu, h⟩)
    · exact .inl (by simp)
    · by_cases e : u = t
      · subst e; exact .inl (List.mem_cons_of_mem _ h)
      · exact .inr ⟨u, hu, e, h⟩
theorem vw_ins {S : List Sl} {q : List (List Int)} {t : Nat} (i : Int) : vw S (q.set t (i :: q.getD t [])) = ins (vw S q) t (en S i) := by
  rw [vw_set, List.map_cons, ← vw_getD]; rfl
theorem del_nil {Q : List (List En)} {k : Int} (h : ∀ l ∈ Q, ∀ e ∈ l, e.key ≠ k) : del Q k = Q := by
  unfold del
  have : ∀ l ∈ Q, List.filter (fun e => decide (e.key ≠ k)) l = l := fun l hl => List.filter_eq_self.2 (fun e he => by simpa using h l hl e he)
  rw [List.map_congr_left (g := id) this, List.map_id]
end Go.Proofs.Ytlakojncjldpbaa

namespace Go.Proofs.Ytlakojncjldpbaa
open Go.RowKit Hop
set_option linter.unusedVariables false
set_option linter.unusedSimpArgs false
def kN (k : Int) : Nd := ⟨k, 0, 0, 0, 0, 0⟩
theorem outS_length (S : List Sl) (i : Int) : (outS S i).length = S.length := by unfold outS; rw [up_length, jS_length]
theorem layS_length (S : List Sl) (t p i n : Int) : (layS S t p i n).length = S.length := by unfold layS; rw [jS_length, jS_length, up_length]
theorem Good.ne0 {s : St} {q : List (List Int)} {p : Nat} (G : Good s q p) {i : Int} (h : inQ q i) : i ≠ 0 := isT_ne0 ((G.tk i).2 h)
/-- A slot taken, its key laid, and laid to a queue's front. -/
theorem Good.push {s : St} {q : List (List Int)} {p : Nat} (G : Good s q p) {t : Nat} (ht : t < q.length) {k i : Int} (hk0 : 0 ≤ k) (hk1 : k < 18446744073709551616) (hno : ∀ j, isT s.slots j = true → (ndT s.slots j).key ≠ k)
    {S1 : List Sl} {fs1 : List Int} {nx1 : Int} (T : Took s.slots S1 i) (A1 : AI S1 fs1 nx1 (total q + 1)) {p' : Nat} (hl1 : S1.length ≤ 8 + 2 * p') (hl2 : S1.length = s.slots.length ∨ S1.length = 2 * s.slots.length) (hp : p' = max p (total q + 1)) {tab1 : List Ts} (P : Puts s.tab tab1 k i) (h4 : p < 49999) :
    let S2 := st S1 i ⟨kN k, true⟩
    let n := hdD 0 (q.getD t [])
    let S3 := layS S2 t 0 i n
    isT S2 i = true ∧ (ndT S2 i).tag = 0 ∧ (lg s.lists t).front = n ∧ (n = 0 ∨ isT S2 n = true) ∧ 0 ≤ (lg s.lists t).many ∧ (lg s.lists t).many < 1000000 ∧
    Good ⟨S3, fs1, nx1, s.live + 1, st s.lists t (layL (lg s.lists t) 0 i n), tab1, s.many + 1, s.queues⟩ (q.set t (i :: q.getD t [])) p' ∧ vw S3 (q.set t (i :: q.getD t [])) = ins (vw s.slots q) t ⟨k, 0, 0⟩ := by
  intro S2 n S3
  have hT2 : ∀ j, isT S2 j = if j = i then true else isT s.slots j := by
    intro j
    show isT (st S1 i _) j = _
    rw [isT_st T.lo T.hi, T.tk]
    split <;> rfl
  have hN2 : ∀ j, ndT S2 j = if j = i then kN k else ndT s.slots j := by
    intro j
    show ndT (st S1 i _) j = _
    rw [ndT_st T.lo T.hi, T.nd]
    split <;> rfl
  have hi2 : isT S2 i = true := by rw [hT2, if_pos rfl]
  have hnq : ∀ j, isT s.slots j = true → j ≠ i := fun j hj e => by subst e; rw [T.was] at hj; cases hj
  have L2 : LG S2 s.lists q := G.gl.other (fun x hx _ => by rw [hT2, hN2, if_neg (hnq x hx), if_neg (hnq x hx)]; exact ⟨hx, rfl, rfl, rfl⟩)
  have h0 : (ndT S2 i).tag = 0 := by rw [hN2, if_pos rfl]; rfl
  obtain ⟨L3, hn, hT3, hN3⟩ := L2.push ht hi2 h0
  have hlen : S2.length = S1.length := st_length _ _ _
  have hlen3 : S3.length = S1.length := (layS_length _ _ _ _ _).trans hlen
  have hd := G.gl.hd t ht
  have hlt : (q.getD t []).length ≤ total q := by
    have := sum_set q t [] ht
    simp at this ⊢
    omega
  have hb := G.b3
  have hb4 := G.b4
  have h3 : ∀ j, j ≠ 0 → (ndT S3 j).key = (if j = i then k else (ndT s.slots j).key) ∧ (ndT S3 j).val = (if j = i then 0 else (ndT s.slots j).val) ∧ (ndT S3 j).flag = (if j = i then 0 else (ndT s.slots j).flag) := by
    intro j hj
    obtain ⟨a, b, c, _⟩ := hN3 j hj
    rw [hN2] at a b c
    refine ⟨a.trans ?_, b.trans ?_, c.trans ?_⟩ <;> split <;> rfl
  have hi0 : i ≠ 0 := by have := T.lo; omega
  have hT3' : ∀ j, isT S3 j = if j = i then true else isT s.slots j := fun j => (hT3 j).trans (hT2 j)
  refine ⟨hi2, h0, by rw [hd], hn, by rw [hd]; simp, by rw [hd]; show ((q.getD t []).length : Int) < _; omega, ⟨L3, ?_, ?_, ?_, ?_, ?_, P.ti, ?_, ?_, ?_, ?_, ?_, ?_, ?_, ?_, ?_, ?_, ?_⟩, ?_⟩
  · rw [List.length_set]; exact G.qn
  · rw [List.length_set]; exact G.q8
  · intro j
    show isT S3 j = true ↔ _
    rw [hT3', inQ_ins ht]
    by_cases e : j = i
    · simp [e]
    · rw [if_neg e, G.tk]; simp [e]
  · rw [total_ins ht]
    exact A1.congr hlen3 (fun j => by rw [hT3', T.tk])
  · rw [total_ins ht]
    show s.live + 1 = _
    rw [G.lv]; rfl
  · have h2 := G.p2
    have hb2 := G.b2
    rcases P.len with ⟨h, _⟩ | ⟨h, _⟩
    · show P2 (tab1.length : Int)
      rw [h]; exact h2
    · show P2 (tab1.length : Int)
      rw [h]
      have := h2.twice (by omega)
      simpa using this
  · rw [total_ins ht]
    show cnt tab1 = _
    rw [P.cn, G.cn]
  · rw [total_ins ht]
    show s.many + 1 = _
    rw [G.mn]; rfl
  · show 4 * cnt tab1 ≤ 3 * tab1.length
    have := G.fit
    have := G.p2.pos
    rw [P.cn]
    rcases P.len with ⟨h, h'⟩ | ⟨h, h'⟩
    · omega
    · omega
  · intro k' v
    show Tin tab1 k' v ↔ isT S3 v = true ∧ (ndT S3 v).key = k'
    rw [P.ins, G.tin, hT3']
    by_cases e : v = i
    · subst e
      rw [if_pos rfl, (h3 v hi0).1, if_pos rfl, T.was]
      simp [eq_comm]
    · rw [if_neg e]
      constructor
      · rintro (⟨h1, h2⟩ | ⟨_, h⟩)
        · exact ⟨h1, by rw [(h3 v (isT_ne0 h1)).1, if_neg e]; exact h2⟩
        · exact absurd h e
      · rintro ⟨h1, h2⟩
        rw [(h3 v (isT_ne0 h1)).1, if_neg e] at h2
        exact .inl ⟨h1, h2⟩
  · intro j hj
    show 0 ≤ (ndT S3 j).key ∧ _
    have hj' : isT S3 j = true := hj
    rw [(h3 j (isT_ne0 hj')).1]
    rw [hT3'] at hj'
    split
    · exact ⟨hk0, hk1⟩
    · rename_i e
      rw [if_neg e] at hj'
      exact G.ks j hj'
  · show S3.length ≤ _
    rw [hlen3]; exact hl1
  · show 3 * tab1.length ≤ _
    have := G.b2
    have := G.cn
    rcases P.len with ⟨h, h'⟩ | ⟨h, h'⟩ <;> omega
  · rw [total_ins ht]; omega
  · omega
  · show S3.length % 8 = 0 ∧ 8 ≤ S3.length ∧ tab1.length % 8 = 0 ∧ 8 ≤ tab1.length
    rw [hlen3]
    obtain ⟨q1, q2, q3, q4⟩ := G.b5
    rcases P.len with ⟨h, h'⟩ | ⟨h, h'⟩ <;> rcases hl2 with h2 | h2 <;> omega
  · rw [vw_ins]
    have e1 : en S3 i = ⟨k, 0, 0⟩ := by
      obtain ⟨a, b, c⟩ := h3 i hi0
      unfold en
      rw [a, b, c, if_pos rfl, if_pos rfl, if_pos rfl]
    rw [e1]
    have e2 : vw S3 q = vw s.slots q := vw_congr (fun j hj => by
      have hj' := (G.tk j).2 hj
      obtain ⟨a, b, c⟩ := h3 j (isT_ne0 hj')
      rw [if_neg (hnq j hj')] at a b c
      exact en_eq a b c)
    rw [e2]
theorem Good.keyone {s : St} {q : List (List Int)} {p : Nat} (G : Good s q p) {i : Int} (hi : isT s.slots i = true) : ∀ j, inQ q j → ((ndT s.slots j).key = (ndT s.slots i).key ↔ j = i) :=
  fun j hj => ⟨fun h => G.one ((G.tk j).2 hj) hi h, fun e => by rw [e]⟩
/-- A slot taken out of its list. -/
theorem Good.outOf {s : St} {q : List (List Int)} {p : Nat} (G : Good s q p) {u : Nat} (hu : u < q.length) {i : Int} (hi : i ∈ q.getD u []) :
    isT s.slots i = true ∧ (ndT s.slots i).tag = u + 1 ∧ ((ndT s.slots i).prev = 0 ∨ isT s.slots (ndT s.slots i).prev = true) ∧ ((ndT s.slots i).next = 0 ∨ isT s.slots (ndT s.slots i).next = true) ∧ 0 < (lg s.lists u).many ∧ (lg s.lists u).many < 1000000 := by
  obtain ⟨h1, h2⟩ := G.gl.tag hu hi
  obtain ⟨_, hp, hx, _⟩ := G.gl.take hu hi
  have hd := G.gl.hd u hu
  have h3 : 0 < (q.getD u []).length := List.length_pos_of_mem hi
  have hlt : (q.getD u []).length ≤ total q := by
    have := sum_set q u [] hu
    simp at this ⊢
    omega
  have hb := G.b3
  have hb4 := G.b4
  refine ⟨h1, h2, hp, hx, ?_, ?_⟩ <;> rw [hd]
  · show (0 : Int) < (q.getD u []).length; omega
  · show ((q.getD u []).length : Int) < _; omega
/-- A slot is taken out of its list, and freed; its key goes too. -/
theorem Good.remove {s : St} {q : List (List Int)} {p : Nat} (G : Good s q p) {u : Nat} (hu : u < q.length) {i : Int} (hi : i ∈ q.getD u []) {tab1 : List Ts} (D : Dels s.tab tab1 (ndT s.slots i).key) :
    let S1 := outS s.slots i
    isT S1 i = true ∧ 0 < s.live ∧ s.live < 1000000 ∧ s.freed.length < 1000000 ∧
    Good ⟨st S1 i Sl.z, s.freed ++ [i], s.next, s.live - 1, st s.lists u (outL s.slots (lg s.lists u) i), tab1, s.many - 1, s.queues⟩ (q.set u ((q.getD u []).erase i)) p ∧ vw (st S1 i Sl.z) (q.set u ((q.getD u []).erase i)) = del (vw s.slots q) (ndT s.slots i).key := by
  intro S1
  obtain ⟨h1, h2⟩ := G.gl.tag hu hi
  obtain ⟨L1, _, _, hT1, hN1, hz⟩ := G.gl.take hu hi
  have htt := total_take G.gl hu hi
  have hiq := inQ_take G.gl hu hi
  have hT1i : isT S1 i = true := (hT1 i).trans h1
  have A1 : AI S1 s.freed s.next (total (q.set u ((q.getD u []).erase i)) + 1) := by
    rw [htt]; exact G.ai.congr (outS_length _ _) hT1
  obtain ⟨A2, hT2, hN2⟩ := A1.free hT1i
  have hT2' : ∀ j, isT (st S1 i Sl.z) j = if j = i then false else isT s.slots j := by
    intro j
    rw [hT2]
    split
    · rfl
    · exact hT1 j
  have L2 : LG (st S1 i Sl.z) (st s.lists u (outL s.slots (lg s.lists u) i)) (q.set u ((q.getD u []).erase i)) := L1.other (fun x hx hx0 => by
    have hne : x ≠ i := fun e => hx0 (by rw [e]; exact hz)
    rw [hT2, if_neg hne, hN2 x hne]
    exact ⟨hx, rfl, rfl, rfl⟩)
  have h3 : ∀ j, j ≠ 0 → j ≠ i → (ndT (st S1 i Sl.z) j).key = (ndT s.slots j).key ∧ (ndT (st S1 i Sl.z) j).val = (ndT s.slots j).val ∧ (ndT (st S1 i Sl.z) j).flag = (ndT s.slots j).flag := by
    intro j hj hne
    rw [hN2 j hne]
    obtain ⟨a, b, c, _⟩ := hN1 j hj
    exact ⟨a, b, c⟩
  have hlv := G.lv
  have hb3 := G.b3
  have hb4 := G.b4
  have hai := G.ai.cn
  have hai2 := G.ai.hi
  have hb1 := G.b1
  have hcn := D.cn
  have hgc := G.cn
  refine ⟨hT1i, by omega, by omega, by omega, ⟨L2, ?_, ?_, ?_, A2, ?_, D.ti, ?_, ?_, ?_, ?_, ?_, ?_, ?_, ?_, ?_, hb4, ?_⟩, ?_⟩
  · rw [List.length_set]; exact G.qn
  · rw [List.length_set]; exact G.q8
  · intro j
    show isT (st S1 i Sl.z) j = true ↔ _
    rw [hT2', hiq, ← G.tk]
    by_cases e : j = i
    · simp [e]
    · simp [e]
  · show s.live - 1 = _
    omega
  · show P2 (tab1.length : Int)
    rw [D.len]; exact G.p2
  · show cnt tab1 = _
    omega
  · show s.many - 1 = _
    have := G.mn
    omega
  · show 4 * cnt tab1 ≤ 3 * tab1.length
    have := G.fit
    have := D.len
    omega
  · intro k' v
    show Tin tab1 k' v ↔ isT (st S1 i Sl.z) v = true ∧ (ndT (st S1 i Sl.z) v).key = k'
    rw [D.ins, G.tin, hT2']
    by_cases e : v = i
    · subst e
      rw [if_pos rfl]
      constructor
      · rintro ⟨⟨_, h⟩, h'⟩; exact absurd h.symm h'
      · rintro ⟨h, _⟩; cases h
    · rw [if_neg e]
      constructor
      · rintro ⟨⟨a, b⟩, c⟩; exact ⟨a, by rw [(h3 v (isT_ne0 a) e).1]; exact b⟩
      · rintro ⟨a, b⟩
        rw [(h3 v (isT_ne0 a) e).1] at b
        exact ⟨⟨a, b⟩, fun h => e (G.one a h1 (by rw [b, h]))⟩
  · intro j hj
    have hj' : isT (st S1 i Sl.z) j = true := hj
    rw [hT2'] at hj'
    split at hj'
    · cases hj'
    · rename_i e
      show 0 ≤ (ndT (st S1 i Sl.z) j).key ∧ (ndT (st S1 i Sl.z) j).key < _
      rw [(h3 j (isT_ne0 hj') e).1]
      exact G.ks j hj'
  · show (st S1 i Sl.z).length ≤ _
    rw [st_length, outS_length]; exact G.b1
  · show 3 * tab1.length ≤ _
    rw [D.len]; exact G.b2
  · show total _ ≤ p
    omega
  · show (st S1 i Sl.z).length % 8 = 0 ∧ 8 ≤ (st S1 i Sl.z).length ∧ tab1.length % 8 = 0 ∧ 8 ≤ tab1.length
    rw [st_length, outS_length, D.len]
    exact G.b5
  · have e2 : vw (st S1 i Sl.z) (q.set u ((q.getD u []).erase i)) = vw s.slots (q.set u ((q.getD u []).erase i)) := vw_congr (fun j hj => by
      obtain ⟨hj1, hj2⟩ := (hiq j).1 hj
      obtain ⟨a, b, c⟩ := h3 j (G.ne0 hj1) hj2
      exact en_eq a b c)
    rw [e2, G.gl.out_map hu hi]
    exact vw_del (G.keyone h1)
/-- A slot is moved to a queue's front. -/
theorem Good.move {s : St} {q : List (List Int)} {p : Nat} (G : Good s q p) {u : Nat} (hu : u < q.length) {i : Int} (hi : i ∈ q.getD u []) {t : Nat} (ht : t < q.length) :
    let S1 := outS s.slots i
    let l1 := st s.lists u (outL s.slots (lg s.lists u) i)
    let n := (lg l1 t).front
    let S2 := layS S1 t 0 i n
    let q2 := ((q.set u ((q.getD u []).erase i))).set t (i :: ((q.set u ((q.getD u []).erase i))).getD t [])
    isT S1 i = true ∧ (ndT S1 i).tag = 0 ∧ (n = 0 ∨ isT S1 n = true) ∧ 0 ≤ (lg l1 t).many ∧ (lg l1 t).many < 1000000 ∧
    Good { s with slots := S2, lists := st l1 t (layL (lg l1 t) 0 i n) } q2 p ∧ vw S2 q2 = ins (del (vw s.slots q) (ndT s.slots i).key) t (en s.slots i) := by
  intro S1 l1 n S2 q2
  obtain ⟨h1, h2⟩ := G.gl.tag hu hi
  obtain ⟨L1, _, _, hT1, hN1, hz⟩ := G.gl.take hu hi
  have htt := total_take G.gl hu hi
  have hiq := inQ_take G.gl hu hi
  have hT1i : isT S1 i = true := (hT1 i).trans h1
  have ht1 : t < (q.set u ((q.getD u []).erase i)).length := by rw [List.length_set]; exact ht
  have hd := L1.hd t ht1
  have hnn : n = hdD 0 ((q.set u ((q.getD u []).erase i)).getD t []) := by show (lg l1 t).front = _; rw [hd]
  obtain ⟨L2, hn, hT2, hN2⟩ := L1.push ht1 hT1i hz
  rw [← hnn] at L2 hn hT2 hN2
  have hi0 := isT_ne0 h1
  have hT : ∀ j, isT S2 j = isT s.slots j := fun j => (hT2 j).trans (hT1 j)
  have h3 : ∀ j, j ≠ 0 → (ndT S2 j).key = (ndT s.slots j).key ∧ (ndT S2 j).val = (ndT s.slots j).val ∧ (ndT S2 j).flag = (ndT s.slots j).flag := by
    intro j hj
    obtain ⟨a, b, c, _⟩ := hN1 j hj
    obtain ⟨a', b', c', _⟩ := hN2 j hj
    exact ⟨a'.trans a, b'.trans b, c'.trans c⟩
  have hb3 := G.b3
  have hb4 := G.b4
  have hlt : ((q.set u ((q.getD u []).erase i)).getD t []).length ≤ total (q.set u ((q.getD u []).erase i)) := by
    have := sum_set (q.set u ((q.getD u []).erase i)) t [] ht1
    simp at this ⊢
    omega
  refine ⟨hT1i, hz, hn, ?_, ?_, ?_, ?_⟩
  · show 0 ≤ (lg l1 t).many
    rw [hd]; simp
  · show (lg l1 t).many < 1000000
    rw [hd]
    show (((q.set u ((q.getD u []).erase i)).getD t []).length : Int) < _
    omega
  · refine G.redo L2 ((layS_length _ _ _ _ _).trans (outS_length _ _)) ?_ ?_ ?_ hT (fun j hj => (h3 j (isT_ne0 hj)).1)
    · rw [List.length_set, List.length_set]
    · rw [total_ins ht1, htt]
    · intro j
      rw [inQ_ins ht1, hiq]
      constructor
      · rintro (rfl | ⟨h, _⟩)
        · exact ⟨u, hu, hi⟩
        · exact h
      · intro h
        by_cases e : j = i
        · exact .inl e
        · exact .inr ⟨h, e⟩
  · show vw S2 ((q.set u ((q.getD u []).erase i)).set t (i :: ((q.set u ((q.getD u []).erase i))).getD t [])) = _
    rw [vw_ins]
    have e1 : en S2 i = en s.slots i := by
      obtain ⟨a, b, c⟩ := h3 i hi0
      exact en_eq a b c
    have e2 : vw S2 (q.set u ((q.getD u []).erase i)) = vw s.slots (q.set u ((q.getD u []).erase i)) := vw_congr (fun j hj => by
      obtain ⟨a, b, c⟩ := h3 j (G.ne0 ((hiq j).1 hj).1)
      exact en_eq a b c)
    rw [e1, e2, G.gl.out_map hu hi, vw_del (G.keyone h1)]
end Go.Proofs.Ytlakojncjldpbaa

namespace Go.Proofs.Ytlakojncjldpbaa
open Go.RowKit Hop
set_option linter.unusedVariables false
set_option linter.unusedSimpArgs false
set_option maxRecDepth 100000
theorem frv_nil {w : World} {v : Value} (h : Frv w v []) : ∃ a c, v = .slice a 0 c := by
  rcases h.2 with ⟨h1, _⟩ | ⟨g, cap, cs, h1, _⟩
  · exact ⟨_, _, h1⟩
  · exact ⟨_, _, h1⟩
theorem frv_last {w : World} {v : Value} {l : List Int} {i : Int} (h : Frv w v (l ++ [i])) :
    ∃ g cap cs, v = .slice (some ⟨g, 0, none⟩) (l.length + 1) cap ∧ l.length < cap ∧ cap ≤ maxLen ∧ Blk w g cs 21 ∧ cs[l.length]? = some (.int .i32 i) ∧ cs.take l.length = l.map (Value.int .i32) ∧ l.length ≤ cs.length := by
  obtain ⟨hl, h⟩ := h
  rcases h with ⟨_, h⟩ | ⟨g, cap, cs, h1, h2, h3, h4, h5, h6⟩
  · simp at h
  · simp only [List.length_append, List.length_singleton, Nat.mul_one] at h1 h3 h5 h6
    refine ⟨g, cap, cs, h1, by omega, h4, h2, ?_, ?_, by omega⟩
    · have e : (cs.take (l.length + 1))[l.length]? = cs[l.length]? := by rw [List.getElem?_take]; simp
      rw [← e, h6]
      simp
    · have e : cs.take l.length = (cs.take (l.length + 1)).take l.length := by rw [List.take_take]; congr 1; omega
      rw [e, h6]
      simp
structure Alc (S : List Sl) (n : Nat) (pa ba : Nat) (fv : Value) (lv : Int) (w w' : World) (i : Int) (S1 : List Sl) (fs1 : List Int) (nx1 : Int) (fv1 : Value) (ba1 : Nat) : Prop where
  tk : Took S S1 i
  ai : AI S1 fs1 nx1 (n + 1)
  fr : Fr (fun k => k = pa ∨ k = ba) w w'
  ha : Blk w' pa [S0 ba1 S1.length, fv1, .int .i64 nx1, .int .i64 (lv + 1)] 189
  hb : Blk w' ba1 (flat encS S1) 201
  hf : Frv w' fv1 fs1
  own : fv1.ownBlock = fv.ownBlock
  ob : ba1 = ba ∨ w.heap.size ≤ ba1
  len : S1.length = S.length ∨ (S1.length = 2 * S.length ∧ S.length = n + 1)
theorem alloc_any (pa ba : Nat) (S : List Sl) (fs : List Int) (next lv : Int) (n : Nat) (fv : Value) (w : World) (A : AI S fs next n) (hn : S.length < 500000) (hlv : 0 ≤ lv ∧ lv < 1000000) (hF : Frv w fv fs)
    (ha : Blk w pa [S0 ba S.length, fv, .int .i64 next, .int .i64 lv] 189) (hb : Blk w ba (flat encS S) 201) :
    Calls Try.prog 216 #[P0 pa] w fun e w' => ∃ i S1 fs1 nx1 fv1 ba1, e = .returned (.int .i32 i) ∧ Alc S n pa ba fv lv w w' i S1 fs1 nx1 fv1 ba1 := by
  have lo := A.lo
  have hi := A.hi
  have nofv : ∀ k, fv.ownBlock = some k → ¬ (k = pa ∨ k = ba) := by
    intro k hk
    obtain ⟨_, cs, h⟩ := hF.lt hk
    rintro (rfl | rfl)
    · exact h.ne ha (by decide) rfl
    · exact h.ne hb (by decide) rfl
  rcases List.eq_nil_or_concat fs with rfl | ⟨l, i, rfl⟩
  · by_cases hr : next < S.length
    · obtain ⟨A1, T1⟩ := A.room hr
      refine (alloc_room pa ba S fv next lv w (by omega) (by omega) hr hlv (frv_nil hF) ha hb).mono ?_
      rintro e w' ⟨rfl, hf, ha', hb'⟩
      exact ⟨_, _, _, _, _, ba, rfl, T1, A1, hf, by rw [st_length]; exact ha', hb', hF.frame hf nofv, rfl, .inl rfl, .inl (st_length _ _ _)⟩
    · have e : next = S.length := by omega
      subst e
      obtain ⟨A1, T1⟩ := (A.more (m := S.length)).room (by simp; omega)
      have hcn := A.cn
      refine (alloc_grow pa ba S fv lv w hn (by omega) hlv (frv_nil hF) ha hb).mono ?_
      rintro e w' ⟨rfl, ba1, hge, hf, ha', hb'⟩
      have hlen : (st (S ++ List.replicate S.length Sl.z) S.length ⟨Nd.z, true⟩).length = 2 * S.length := by rw [st_length]; simp; omega
      refine ⟨_, _, _, _, _, ba1, rfl, ⟨T1.lo, T1.hi, ?_, ?_, ?_⟩, A1, hf, by rw [hlen]; exact ha', hb', hF.frame hf nofv, rfl, .inr hge, .inr ⟨hlen, ?_⟩⟩
      · rw [← isT_more S S.length]; exact T1.was
      · intro j; rw [T1.tk, isT_more]
      · intro j; rw [T1.nd, ndT_more]
      · simp at hcn; omega
  · rw [List.concat_eq_append] at A hF
    obtain ⟨A1, T1⟩ := A.freed
    obtain ⟨g, cap, cs, rfl, h1, h2, h3, h4, h5, h6⟩ := frv_last hF
    obtain ⟨f0, f1, f2⟩ := A.fr i (by simp)
    refine (alloc_freed pa ba S next lv g l.length cap cs i w (by omega) f0 (by omega) hlv h1 (by unfold maxLen at h2; omega) (by omega) h3 h4 ha hb).mono ?_
    rintro e w' ⟨rfl, hf, ha', hb'⟩
    have hg : Blk w' g cs 21 := hf.blk (nofv g rfl) h3
    refine ⟨_, _, _, _, _, ba, rfl, T1, A1, hf, by rw [st_length]; exact ha', hb', ⟨by simp, .inr ⟨g, l.length, cs, rfl, hg, by omega, by omega, by omega, by rw [Nat.mul_one]; exact h5⟩⟩, rfl, .inl rfl, .inl (st_length _ _ _)⟩
end Go.Proofs.Ytlakojncjldpbaa

namespace Go.Proofs.Ytlakojncjldpbaa
open Go.RowKit Hop
set_option linter.unusedVariables false
set_option linter.unusedSimpArgs false
set_option maxRecDepth 100000
theorem Hop.SRep.lrep {w : World} {L : Hop.Loc} {s : St} (h : SRep w L s) : LRep w L.pl L.pa L.bl L.ba s.slots s.lists L.fv (.int .i64 s.next) (.int .i64 s.live) := ⟨h.hl, h.ha, h.bl, h.ba⟩
theorem Hop.SRep.trep {w : World} {L : Hop.Loc} {s : St} (h : SRep w L s) : TRep w L.pt L.bt s.tab s.many := ⟨h.ht, h.bt⟩
/-- A key's node, or none. -/
def Nod (s : St) (k i : Int) : Prop := (isT s.slots i = true ∧ (ndT s.slots i).key = k) ∨ (i = 0 ∧ ∀ j, isT s.slots j = true → (ndT s.slots j).key ≠ k)
theorem Good.nod {s : St} {q : List (List Int)} {p : Nat} (G : Good s q p) {k r : Int} (F : Fnd hmF s.tab k r) : Nod s k (tg s.tab r).num := by
  have h := hmF_lt G.p2 k
  by_cases hx : ∃ v, Tin s.tab k v
  · obtain ⟨v, hv⟩ := hx
    obtain ⟨_, _, h3⟩ := F.hit G.ti h.1 h.2 hv
    rw [h3]
    exact .inl ((G.tin k v).1 hv)
  · have hx' : ∀ v, ¬ Tin s.tab k v := fun v hv => hx ⟨v, hv⟩
    have h1 := F.miss hx'
    exact .inr ⟨G.ti.zero r F.lo F.hi h1, fun j hj e => hx' j ((G.tin k j).2 ⟨hj, e⟩)⟩
section
variable {L : Hop.Loc} {s : St} {q : List (List Int)} {p : Nat}
set_option maxHeartbeats 800000 in
theorem node_any (k : Int) (w : World) (hk0 : 0 ≤ k) (hk1 : k < 18446744073709551616) (R : SRep w L s) (G : Good s q p) :
    Calls Try.prog 173 #[P0 L.ps, .int .u64 k] w fun e w' => ∃ i, e = .returned (.int .i32 i) ∧ Below w.heap.size w w' ∧ Nod s k i := by
  have hpos := G.p2.pos
  have hfit := G.fit
  have hee : ∃ e : Int, 0 ≤ e ∧ e < s.tab.length ∧ (tg s.tab e).full = false := exists_empty (by omega)
  obtain ⟨r, hr⟩ := Fnd.ex (hm := hmF) k (hmF_lt G.p2 _).1 (hmF_lt G.p2 _).2 hee
  have HN := Go.Lib.hid (G.nod hr)
  have c0 := R.hs.cell 0
  have c1 := R.hs.cell 1
  have c2 := R.hs.cell 2
  simp only [List.getElem?_cons_zero, List.getElem?_cons_succ] at c0 c1 c2
  have GA := get_at L.pt L.bt s.tab s.many k r w hk0 hk1 G.p2 R.trep hee hr
  have HGA := Go.Lib.hid GA
  clear GA hr hee hfit hpos
  go_enter Try.func173, Try.ntmps173
  go_wp2_with fail
  refine HGA.out.mono ?_
  rintro e w1 ⟨rfl, hb⟩
  go_wp2_with fail
  go_ret
  exact ⟨_, rfl, hb, HN.out⟩
set_option maxHeartbeats 800000 in
theorem skey_any (i : Int) (w : World) (hi : i ≤ 2147483647) (R : SRep w L s) (G : Good s q p) :
    Calls Try.prog 214 #[P0 L.ps, .int .i32 i] w fun e w' => e = .returned (.tuple #[.int .u64 (ndT s.slots i).key, .bool (i != 0)]) ∧ Below w.heap.size w w' := by
  have c1 := R.hs.cell 1
  simp only [List.getElem?_cons_zero, List.getElem?_cons_succ] at c1
  have hb1 := G.b1
  have hb4 := G.b4
  have AT := at_any L.pa L.ba s.slots L.fv (.int .i64 s.next) (.int .i64 s.live) i w hi (by omega) R.ha R.ba
  have HAT := Go.Lib.hid AT
  clear AT hb1 hb4
  generalize ndT s.slots i = x at *
  obtain ⟨k, v, fl, tg, pv, nt⟩ := x
  simp only [encN] at HAT
  have nf := node_key
  go_enter Try.func214, Try.ntmps214
  go_wp2_with fail
  refine HAT.out.mono ?_
  rintro e w1 ⟨rfl, hb⟩
  go_wp2_with fail
  go_ret2
  exact ⟨by simp [bne], hb⟩
set_option maxHeartbeats 800000 in
theorem sback_any (t : Nat) (w : World) (ht : t < q.length) (R : SRep w L s) (G : Good s q p) :
    Calls Try.prog 180 #[P0 L.ps, .int .i64 t] w fun e w' => e = .returned (.tuple #[.int .u64 (ndT s.slots (lsD 0 (q.getD t []))).key, .bool (lsD 0 (q.getD t []) != 0)]) ∧ Below w.heap.size w w' := by
  have c0 := R.hs.cell 0
  simp only [List.getElem?_cons_zero, List.getElem?_cons_succ] at c0
  have hd := G.gl.hd t ht
  have hll := G.gl.len
  have h8 := G.q8
  have hb1 := G.b1
  have hb4 := G.b4
  have hle : lsD 0 (q.getD t []) ≤ 2147483647 := by
    by_cases hn : q.getD t [] = []
    · rw [hn]; decide
    · have := isT_lt (G.gl.tag ht (lsD_mem 0 _ hn)).1
      omega
  have HB := Go.Lib.hid (back_yes L.pl L.pa L.bl L.ba s.slots s.lists L.fv (.int .i64 s.next) (.int .i64 s.live) t w (by omega) (by omega) R.lrep)
  rw [hd] at HB
  have HK := Go.Lib.hid (skey_any (L := L) (lsD 0 (q.getD t [])) w hle R G)
  clear hd hll h8 hb1 hb4 hle G
  simp only at HB
  generalize lsD 0 (q.getD t []) = b at *
  go_enter Try.func180, Try.ntmps180
  go_wp2_with fail
  refine HB.out.mono ?_
  rintro e w1 ⟨rfl, rfl⟩
  go_wp2_with fail
  refine HK.out.mono ?_
  rintro e w1 ⟨rfl, hb⟩
  go_wp2_with fail
  go_ret2
  exact ⟨rfl, hb⟩
set_option maxHeartbeats 800000 in
theorem slen_any (t : Nat) (w : World) (ht : t < q.length) (R : SRep w L s) (G : Good s q p) :
    Calls Try.prog 128 #[P0 L.ps, .int .i64 t] w fun e w' => e = .returned (.int .i64 (q.getD t []).length) ∧ w = w' := by
  have c0 := R.hs.cell 0
  simp only [List.getElem?_cons_zero, List.getElem?_cons_succ] at c0
  have hd := G.gl.hd t ht
  have hll := G.gl.len
  have h8 := G.q8
  have HB := Go.Lib.hid (llen_yes L.pl L.pa L.bl L.ba s.slots s.lists L.fv (.int .i64 s.next) (.int .i64 s.live) t w (by omega) (by omega) R.lrep)
  rw [hd] at HB
  simp only at HB
  clear hd hll h8 G
  generalize (q.getD t []).length = m at *
  go_enter Try.func128, Try.ntmps128
  go_wp2_with fail
  refine HB.out.mono ?_
  rintro e w1 ⟨rfl, rfl⟩
  go_wp2_with fail
  go_ret
  exact ⟨rfl, rfl⟩
set_option maxHeartbeats 800000 in
theorem tlen_any (pt bt : Nat) (t : List Ts) (many : Int) (w : World) (h : TRep w pt bt t many) :
    Calls Try.prog 213 #[P0 pt] w fun e w' => e = .returned (.int .i64 many) ∧ w = w' := by
  have c1 := h.ht.cell 1
  simp only [List.getElem?_cons_zero, List.getElem?_cons_succ] at c1
  go_enter Try.func213, Try.ntmps213
  go_wp2_with fail
  go_ret
  exact ⟨rfl, rfl⟩
set_option maxHeartbeats 800000 in
theorem tslots_any (pt bt : Nat) (t : List Ts) (many : Int) (w : World) (h : TRep w pt bt t many) (hl : t.length < 1000000) :
    Calls Try.prog 172 #[P0 pt] w fun e w' => e = .returned (.int .i64 t.length) ∧ w' = w := by
  have c1 := h.ht.cell 0
  simp only [List.getElem?_cons_zero, List.getElem?_cons_succ] at c1
  go_enter Try.func172, Try.ntmps172
  go_wp2_with fail
  go_ret
  exact ⟨rfl, rfl⟩
set_option maxHeartbeats 800000 in
theorem alen_any (pa ba : Nat) (S : List Sl) (f nx lv : Value) (w : World) (hl : S.length < 1000000) (ha : Blk w pa [S0 ba S.length, f, nx, lv] 189) :
    Calls Try.prog 171 #[P0 pa] w fun e w' => e = .returned (.int .i64 S.length) ∧ w' = w := by
  have c1 := ha.cell 0
  simp only [List.getElem?_cons_zero, List.getElem?_cons_succ] at c1
  go_enter Try.func171, Try.ntmps171
  go_wp2_with fail
  go_ret
  exact ⟨rfl, rfl⟩
set_option maxHeartbeats 800000 in
theorem total_any (w : World) (R : SRep w L s) (G : Good s q p) :
    Calls Try.prog 179 #[P0 L.ps] w fun e w' => e = .returned (.int .i64 (total q)) ∧ w = w' := by
  have c2 := R.hs.cell 2
  simp only [List.getElem?_cons_zero, List.getElem?_cons_succ] at c2
  have HT := Go.Lib.hid (tlen_any L.pt L.bt s.tab s.many w R.trep)
  rw [G.mn] at HT
  clear G
  go_enter Try.func179, Try.ntmps179
  go_wp2_with fail
  refine HT.out.mono ?_
  rintro e w1 ⟨rfl, rfl⟩
  go_wp2_with fail
  go_ret
  exact ⟨rfl, rfl⟩
set_option maxHeartbeats 800000 in
theorem srooms_any (w : World) (R : SRep w L s) (G : Good s q p) :
    Calls Try.prog 117 #[P0 L.ps] w fun e w' => e = .returned (.tuple #[.int .i64 s.slots.length, .int .i64 s.tab.length]) ∧ Below w.heap.size w w' := by
  have c1 := R.hs.cell 1
  have c2 := R.hs.cell 2
  simp only [List.getElem?_cons_zero, List.getElem?_cons_succ] at c1 c2
  have hb1 := G.b1
  have hb2 := G.b2
  have hb4 := G.b4
  have HA := Go.Lib.hid (fun w => alen_any L.pa L.ba s.slots L.fv (.int .i64 s.next) (.int .i64 s.live) w (by omega))
  have HT := Go.Lib.hid (fun w h => tslots_any L.pt L.bt s.tab s.many w h (by omega))
  have HRa := Go.Lib.hid R.ha
  have HRt := Go.Lib.hid R.trep
  clear G hb1 hb2 hb4 R
  go_enter Try.func117, Try.ntmps117
  go_wp2_with fail
  go_quiet (first | (go_at_call 171; exact Calls.quiet_of_same (HA.out _ HRa.out)) | (go_at_call 172; refine (HT.out _ ⟨blk_drewN HRt.out.ht _, blk_drewN HRt.out.bt _⟩).mono ?_; rintro e w' ⟨rfl, rfl⟩; exact ⟨rfl, _, rfl⟩))
  go_wp2_with fail
  go_ret2
  exact ⟨rfl, below_drewN (Below.refl _ _) nq⟩
set_option maxHeartbeats 800000 in
theorem find_key (k : Int) (w : World) (hk0 : 0 ≤ k) (hk1 : k < 18446744073709551616) (R : SRep w L s) (G : Good s q p) :
    Calls Try.prog 118 #[P0 L.ps, .int .u64 k] w fun e w' => ∃ (t : Nat) (ok : Bool), e = .returned (.tuple #[.int .i64 t, .bool ok]) ∧ Below w.heap.size w w' ∧
      ((ok = true ∧ t < q.length ∧ ∃ i ∈ q.getD t [], (ndT s.slots i).key = k) ∨ (ok = false ∧ t = 0 ∧ ∀ j, isT s.slots j = true → (ndT s.slots j).key ≠ k)) := by
  have c0 := R.hs.cell 0
  simp only [List.getElem?_cons_zero, List.getElem?_cons_succ] at c0
  have hb1 := G.b1
  have hb4 := G.b4
  have h8 := G.q8
  have HNA := Go.Lib.hid (node_any k w hk0 hk1 R G)
  have HR := Go.Lib.hid R
  have HG := Go.Lib.hid G
  clear G
  go_enter Try.func118, Try.ntmps118
  go_wp2_with fail
  refine HNA.out.mono ?_
  rintro e w1 ⟨i, rfl, hb, hN⟩
  have R1 := R.keep hb
  rcases hN with ⟨h1, h2⟩ | ⟨rfl, h2⟩
  · obtain ⟨t, ht, hi⟩ := (HG.out.tk i).1 h1
    have htg := (HG.out.gl.tag ht hi).2
    have hlt := isT_lt h1
    have HT := Go.Lib.hid (tag_any L.pl L.pa L.bl L.ba s.slots s.lists L.fv (.int .i64 s.next) (.int .i64 s.live) i w1 (by omega) (by omega) R1.lrep (by omega))
    rw [htg] at HT
    have e1 : ((t : Int) + 1 - 1) = t := by omega
    rw [e1] at HT
    have hi0 : i ≠ 0 := by omega
    have c1 := R1.hs.cell 0
    simp only [List.getElem?_cons_zero, List.getElem?_cons_succ] at c1
    have HH := Go.Lib.hid hi
    have HK := Go.Lib.hid h2
    have HB := Go.Lib.hid hb
    clear hi h2 htg hlt e1 hb h1
    go_wp2_with fail
    refine HT.out.mono ?_
    rintro e w2 ⟨rfl, hb2⟩
    go_wp2_with fail
    go_ret2
    exact ⟨t, true, rfl, HB.out.trans (hb2.mono HB.out.size), .inl ⟨rfl, ht, i, HH.out, HK.out⟩⟩
  · have HK := Go.Lib.hid h2
    clear h2
    go_wp2_with fail
    go_ret2
    exact ⟨0, false, rfl, hb, .inr ⟨rfl, rfl, HK.out⟩⟩
end
end Go.Proofs.Ytlakojncjldpbaa
