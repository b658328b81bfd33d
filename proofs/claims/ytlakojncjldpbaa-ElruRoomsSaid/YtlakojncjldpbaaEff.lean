/- What the store's acts do, as lists of entries. No program in sight. -/
import Derived.Test.YtlakojncjldpbaaGood
namespace Go.Proofs.Ytlakojncjldpbaa
open Go.RowKit Hop
set_option linter.unusedVariables false
set_option linter.unusedSimpArgs false
def vw (S : List Sl) (q : List (List Int)) : List (List En) := q.map (List.map (en S))
def del (Q : List (List En)) (k : Int) : List (List En) := Q.map (List.filter (fun e => decide (e.key ≠ k)))
def ins (Q : List (List En)) (t : Nat) (e : En) : List (List En) := Q.set t (e :: Q.getD t [])
theorem vw_getD (S : List Sl) (q : List (List Int)) (t : Nat) : (vw S q).getD t [] = (q.getD t []).map (en S) := by
  unfold vw
  simp only [List.getD_eq_getElem?_getD, List.getElem?_map]
  cases q[t]? <;> rfl
theorem inQ_mem {q : List (List Int)} {i : Int} : inQ q i ↔ ∃ l ∈ q, i ∈ l := by
  unfold inQ
  constructor
  · rintro ⟨t, ht, h⟩
    rw [List.getD_eq_getElem?_getD, List.getElem?_eq_getElem ht] at h
    exact ⟨q[t], List.getElem_mem ht, h⟩
  · rintro ⟨l, hl, h⟩
    obtain ⟨t, ht, rfl⟩ := List.getElem_of_mem hl
    exact ⟨t, ht, by rw [List.getD_eq_getElem?_getD, List.getElem?_eq_getElem ht]; exact h⟩
theorem vw_congr {S S' : List Sl} {q : List (List Int)} (h : ∀ i, inQ q i → en S' i = en S i) : vw S' q = vw S q := by
  unfold vw
  exact List.map_congr_left (fun l hl => List.map_congr_left (fun i hi => h i (inQ_mem.2 ⟨l, hl, hi⟩)))
theorem vw_set (S : List Sl) (q : List (List Int)) (t : Nat) (c : List Int) : vw S (q.set t c) = (vw S q).set t (c.map (en S)) := by
  unfold vw
  rw [List.map_set]
theorem en_eq {S S' : List Sl} {i : Int} (h1 : (ndT S' i).key = (ndT S i).key) (h2 : (ndT S' i).val = (ndT S i).val) (h3 : (ndT S' i).flag = (ndT S i).flag) : en S' i = en S i := by
  unfold en; rw [h1, h2, h3]
theorem LG.tag {S : List Sl} {ls : List Li} {q : List (List Int)} (G : LG S ls q) {t : Nat} (ht : t < q.length) {i : Int} (hi : i ∈ q.getD t []) : isT S i = true ∧ (ndT S i).tag = t + 1 := seg_mem (G.seg t ht) hi
theorem LG.uniq {S : List Sl} {ls : List Li} {q : List (List Int)} (G : LG S ls q) {t u : Nat} (ht : t < q.length) (hu : u < q.length) {i : Int} (hi : i ∈ q.getD t []) (hj : i ∈ q.getD u []) : t = u := by
  have a := (G.tag ht hi).2
  have b := (G.tag hu hj).2
  omega
/-- Lists and nodes are others; slots taken, keys and all else stay. -/
theorem Good.redo {s : St} {q q' : List (List Int)} {p : Nat} (G : Good s q p) {S' : List Sl} {ls' : List Li} (L : LG S' ls' q') (hl : S'.length = s.slots.length) (hq : q'.length = q.length) (ht : total q' = total q)
    (hi : ∀ i, inQ q' i ↔ inQ q i) (hT : ∀ i, isT S' i = isT s.slots i) (hk : ∀ i, isT s.slots i = true → (ndT S' i).key = (ndT s.slots i).key) : Good { s with slots := S', lists := ls' } q' p := by
  obtain ⟨gl, qn, q8, tk, ai, lv, ti, p2, cn, mn, fit, tin, ks, b1, b2, b3, b4, b5⟩ := G
  refine ⟨L, by rw [hq]; exact qn, by rw [hq]; exact q8, fun i => ?_, ?_, by rw [ht]; exact lv, ti, p2, by rw [ht]; exact cn, by rw [ht]; exact mn, fit, fun k v => ?_, fun i hi' => ?_, ?_, b2, by rw [ht]; exact b3, b4, ?_⟩
  · show isT S' i = true ↔ _
    rw [hT, hi]; exact tk i
  · show AI S' _ _ _
    rw [ht]; exact ai.congr hl hT
  · show _ ↔ isT S' v = true ∧ (ndT S' v).key = k
    rw [tin, hT]
    constructor
    · rintro ⟨h1, h2⟩; exact ⟨h1, by rw [hk v h1]; exact h2⟩
    · rintro ⟨h1, h2⟩; exact ⟨h1, by rw [← hk v h1]; exact h2⟩
  · have h1 : isT s.slots i = true := by rw [← hT]; exact hi'
    show 0 ≤ (ndT S' i).key ∧ _
    rw [hk i h1]; exact ks i h1
  · show S'.length ≤ _
    rw [hl]; exact b1
  · show S'.length % 8 = 0 ∧ 8 ≤ S'.length ∧ _
    rw [hl]; exact b5
theorem total_nil_iff (q : List (List Int)) : total q = q.flatten.length := by unfold total; rw [List.length_flatten]
/-- A queue without one: the others stay. -/
theorem LG.out_map {S : List Sl} {ls : List Li} {q : List (List Int)} (G : LG S ls q) {t : Nat} (ht : t < q.length) {i : Int} (hi : i ∈ q.getD t []) : q.set t ((q.getD t []).erase i) = q.map (List.filter (fun j => decide (j ≠ i))) := by
  refine List.ext_getElem (by simp) (fun u h1 h2 => ?_)
  rw [List.length_set] at h1
  rw [List.getElem_map, List.getElem_set]
  split
  · rename_i e
    subst e
    have e2 : q.getD t [] = q[t] := by rw [List.getD_eq_getElem?_getD, List.getElem?_eq_getElem ht]; rfl
    have hnd := G.nd t ht
    rw [e2] at hi hnd ⊢
    rw [hnd.erase_eq_filter]
    exact List.filter_congr (fun x _ => by by_cases e : x = i <;> simp [e])
  · rename_i e
    refine (List.filter_eq_self.2 (fun x hx => ?_)).symm
    have e2 : q.getD u [] = q[u] := by rw [List.getD_eq_getElem?_getD, List.getElem?_eq_getElem h1]; rfl
    have hxu : x ∈ q.getD u [] := by rw [e2]; exact hx
    simp only [decide_eq_true_eq]
    rintro rfl
    exact e (G.uniq ht (by simpa using h1) hi hxu)
theorem vw_del {S : List Sl} {q : List (List Int)} {i k : Int} (hk : ∀ j, inQ q j → ((ndT S j).key = k ↔ j = i)) : vw S (q.map (List.filter (fun j => decide (j ≠ i)))) = del (vw S q) k := by
  unfold vw del
  rw [List.map_map, List.map_map]
  refine List.map_congr_left (fun l hl => ?_)
  simp only [Function.comp]
  rw [List.filter_map]
  congr 1
  refine List.filter_congr (fun j hj => ?_)
  have := hk j (inQ_mem.2 ⟨l, hl, hj⟩)
  simp only [Function.comp, en]
  by_cases e : j = i
  · have h : (ndT S j).key = k := this.2 e
    simp [e, ← h]
  · have h : ¬ (ndT S j).key = k := fun h => e (this.1 h)
    simp [e, h]
theorem total_take {S : List Sl} {ls : List Li} {q : List (List Int)} (G : LG S ls q) {t : Nat} (ht : t < q.length) {i : Int} (hi : i ∈ q.getD t []) : total (q.set t ((q.getD t []).erase i)) + 1 = total q := by
  have h := sum_set q t ((q.getD t []).erase i) ht
  have h2 := List.length_erase_of_mem hi
  have h3 : 0 < (q.getD t []).length := List.length_pos_of_mem hi
  omega
theorem inQ_take {S : List Sl} {ls : List Li} {q : List (List Int)} (G : LG S ls q) {t : Nat} (ht : t < q.length) {i : Int} (hi : i ∈ q.getD t []) (j : Int) : inQ (q.set t ((q.getD t []).erase i)) j ↔ inQ q j ∧ j ≠ i := by
  rw [G.out_map ht hi, inQ_mem, inQ_mem]
  constructor
  · rintro ⟨l, hl, h⟩
    obtain ⟨l0, h0, rfl⟩ := List.mem_map.1 hl
    obtain ⟨h1, h2⟩ := List.mem_filter.1 h
    exact ⟨⟨l0, h0, h1⟩, by simpa using h2⟩
  · rintro ⟨⟨l, hl, h⟩, hne⟩
    exact ⟨_, List.mem_map_of_mem hl, List.mem_filter.2 ⟨h, by simpa using hne⟩⟩
theorem total_ins {q : List (List Int)} {t : Nat} (ht : t < q.length) (i : Int) : total (q.set t (i :: q.getD t [])) = total q + 1 := by
  have h := sum_set q t (i :: q.getD t []) ht
  simp at h ⊢
  omega
theorem inQ_ins {q : List (List Int)} {t : Nat} (ht : t < q.length) (i j : Int) : inQ (q.set t (i :: q.getD t [])) j ↔ j = i ∨ inQ q j := by
  rw [inQ_set ht]
  unfold inQ
  constructor
  · rintro (h | ⟨u, hu, _, h⟩)
    · rcases List.mem_cons.1 h with h | h
      · exact .inl h
      · exact .inr ⟨t, ht, h⟩
    · exact .inr ⟨u, hu, h⟩
  · rintro (rfl | ⟨u, hu, h⟩)
    · exact .inl (by simp)
    · by_cases e : u = t
      · subst e; exact .inl (List.mem_cons_of_mem _ h)
      · exact .inr ⟨u, hu, e, h⟩
theorem vw_ins {S : List Sl} {q : List (List Int)} {t : Nat} (i : Int) : vw S (q.set t (i :: q.getD t [])) = ins (vw S q) t (en S i) := by
  rw [vw_set, List.map_cons, ← vw_getD]; rfl
theorem del_nil {Q : List (List En)} {k : Int} (h : ∀ l ∈ Q, ∀ e ∈ l, e.key ≠ k) : del Q k = Q := by
  unfold del
  have : ∀ l ∈ Q, List.filter (fun e => decide (e.key ≠ k)) l = l := fun l hl => List.filter_eq_self.2 (fun e he => by simpa using h l hl e he)
  rw [List.map_congr_left (g := id) this, List.map_id]
end Go.Proofs.Ytlakojncjldpbaa
