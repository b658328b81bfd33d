/- A store of one queue: a stack of items, a queue of keys. -/
import Derived.Test.YtlakojncjldpbaaTl3
import Derived.Test.YtlakojncjldpbaaLb2
namespace Go.Proofs.Ytlakojncjldpbaa
open Go.RowKit Hop
set_option linter.unusedVariables false
set_option linter.unusedSimpArgs false
set_option maxRecDepth 100000
theorem hasK_lE (S : List LI) (k : Int) : hasK [S.map lE] k ↔ k ∈ keysL S := by
  unfold hasK
  rw [mem_keysL]
  constructor
  · rintro ⟨l, hl, e, he, rfl⟩
    rw [List.mem_singleton] at hl
    subst hl
    obtain ⟨x, hx, rfl⟩ := List.mem_map.1 he
    exact ⟨x, hx, rfl⟩
  · rintro ⟨x, hx, rfl⟩
    exact ⟨_, List.mem_singleton.2 rfl, lE x, List.mem_map_of_mem hx, rfl⟩
theorem del_lE (S : List LI) (k : Int) : del [S.map lE] k = [(woL S k).map lE] := by
  unfold del woL
  simp only [List.map_cons, List.map_nil, List.filter_map]
  rfl
theorem ins_lE (S : List LI) (k : Int) : ins [S.map lE] 0 ⟨k, 0, 0⟩ = [((⟨k, 0⟩ : LI) :: S).map lE] := rfl
theorem flagQ_lE (S : List LI) (k f : Int) : flagQ [S.map lE] k f = [(setL S k f).map lE] := by
  unfold flagQ setL
  simp only [List.map_cons, List.map_nil, List.map_map]
  congr 1
  refine List.map_congr_left (fun x _ => ?_)
  show (if (lE x).key = k then (⟨(lE x).key, (lE x).val, f⟩ : En) else lE x) = lE (if x.key = k then ⟨x.key, f⟩ else x)
  by_cases e : x.key = k
  · rw [if_pos e, if_pos (show (lE x).key = k from e)]
    rfl
  · rw [if_neg e, if_neg (show ¬ (lE x).key = k from e)]
theorem tot_lE (S : List LI) : tot [S.map lE] = S.length := by simp [tot]
theorem nd_lE {S : List LI} {p : Nat} (h : Qok [S.map lE] p) : (keysL S).Nodup := by
  have := h.nd
  simp only [List.flatten_cons, List.flatten_nil, List.append_nil, List.map_map] at this
  exact this
theorem ks_lE {S : List LI} {p : Nat} (h : Qok [S.map lE] p) {k : Int} (hk : k ∈ keysL S) : 0 ≤ k ∧ k < 18446744073709551616 := by
  obtain ⟨x, hx, rfl⟩ := mem_keysL.1 hk
  exact h.ks _ (List.mem_singleton.2 rfl) (lE x) (List.mem_map_of_mem hx)
theorem len_lE {S : List LI} {p : Nat} (h : Qok [S.map lE] p) : S.length ≤ p ∧ p < 50000 := by
  have h1 := h.tot
  rw [tot_lE] at h1
  exact ⟨h1, h.p4⟩
section
variable {ps : Nat} {O : Nat → Prop} {S : List LI} {p : Nat}
theorem find_l (k : Int) (w : World) (hk0 : 0 ≤ k) (hk1 : k < 18446744073709551616) (H : Sta w ps O [S.map lE] p) :
    Calls Try.prog 118 #[P0 ps, .int .u64 k] w fun e w' => e = .returned (.tuple #[.int .i64 0, .bool (decide (k ∈ keysL S))]) ∧ Below w.heap.size w w' := by
  refine (find_sta k w hk0 hk1 H).mono ?_
  rintro e w' ⟨t, ok, rfl, hb, h⟩
  rcases h with ⟨rfl, h2, e, h3, h4⟩ | ⟨rfl, rfl, h3⟩
  · have ht : t = 0 := by simpa using h2
    subst ht
    have : k ∈ keysL S := (hasK_lE S k).1 ⟨_, List.mem_singleton.2 rfl, e, h3, h4⟩
    rw [decide_eq_true this]
    exact ⟨rfl, hb⟩
  · rw [decide_eq_false (fun h => h3 ((hasK_lE S k).2 h))]
    exact ⟨rfl, hb⟩
theorem flag_l (k : Int) (w : World) (hk0 : 0 ≤ k) (hk1 : k < 18446744073709551616) (H : Sta w ps O [S.map lE] p) :
    Calls Try.prog 142 #[P0 ps, .int .u64 k] w fun e w' => e = .returned (.int .i64 (kindOf S k)) ∧ Below w.heap.size w w' := by
  have nd := nd_lE H.qok
  refine (flag_sta k w hk0 hk1 H).mono ?_
  rintro e w' ⟨f, rfl, hb, h⟩
  rcases h with ⟨l, hl, e, he, h1, h2⟩ | ⟨h1, rfl⟩
  · rw [List.mem_singleton] at hl
    subst hl
    obtain ⟨x, hx, rfl⟩ := List.mem_map.1 he
    have h1' : x.key = k := h1
    rw [← h1', kindOf_mem nd hx]
    exact ⟨by rw [← h2]; rfl, hb⟩
  · rw [kindOf_not (fun h => h1 ((hasK_lE S k).2 h))]
    exact ⟨rfl, hb⟩
theorem push_l (k : Int) (w : World) (hk0 : 0 ≤ k) (hk1 : k < 18446744073709551616) (hp : p < 49999) (hno : k ∉ keysL S) (H : Sta w ps O [S.map lE] p) :
    Calls Try.prog 122 #[P0 ps, .int .i64 0, .int .u64 k] w fun e w' => e = .returned (.bool true) ∧ ∃ O', Sta w' ps O' [((⟨k, 0⟩ : LI) :: S).map lE] (max p (S.length + 1)) ∧ Chg O O' w w' := by
  have h := pushfront_sta 0 k w hk0 hk1 (by simp) hp (fun h => hno ((hasK_lE S k).1 h)) H
  rw [tot_lE, ins_lE] at h
  exact h
theorem remove_l (k : Int) (w : World) (hk0 : 0 ≤ k) (hk1 : k < 18446744073709551616) (H : Sta w ps O [S.map lE] p) :
    Calls Try.prog 120 #[P0 ps, .int .u64 k] w fun e w' => e = .returned (.bool (decide (k ∈ keysL S))) ∧ ∃ O', Sta w' ps O' [(woL S k).map lE] p ∧ Chg O O' w w' := by
  by_cases hk : k ∈ keysL S
  · rw [decide_eq_true hk]
    have h := sremove_has k w hk0 hk1 ((hasK_lE S k).2 hk) H
    rw [del_lE] at h
    exact h
  · rw [decide_eq_false hk]
    refine (sremove_not k w hk0 hk1 (fun h => hk ((hasK_lE S k).1 h)) H).mono ?_
    rintro e w' ⟨rfl, hb⟩
    rw [woL_id hk]
    exact ⟨rfl, O, H.keep hb, Chg.of_below hb⟩
theorem setflag_l (k f : Int) (w : World) (hk0 : 0 ≤ k) (hk1 : k < 18446744073709551616) (hk : k ∈ keysL S) (H : Sta w ps O [S.map lE] p) :
    Calls Try.prog 223 #[P0 ps, .int .u64 k, .int .i64 f] w fun e w' => e = .returned (.bool true) ∧ Sta w' ps O [(setL S k f).map lE] p ∧ Chg O O w w' := by
  have h := setflag_sta k f w hk0 hk1 ((hasK_lE S k).2 hk) H
  rw [flagQ_lE] at h
  exact h
theorem keys_l (w : World) (H : Sta w ps O [S.map lE] p) :
    Calls Try.prog 116 #[P0 ps, .int .i64 0] w fun e w' => ∃ v, e = .returned v ∧ KL w' v (keysL S) ∧ (∀ b, v.ownBlock = some b → w.heap.size ≤ b) ∧ Below w.heap.size w w' := by
  have h := keys_sta 0 w (by simp) H
  have e1 : ([S.map lE].getD 0 []).length = (keysL S).length := by simp [keysL]
  have e2 : ([S.map lE].getD 0 []).map (fun e => Value.int .u64 e.key) = (keysL S).map (Value.int .u64) := by
    simp only [List.getD_cons_zero, List.map_map, keysL]
    rfl
  rw [e1, e2] at h
  exact h
end
section
variable {ps : Nat} {O : Nat → Prop} {q : List Int} {p : Nat}
theorem nd_q {q : List Int} {p : Nat} (h : Qok (qN [q]) p) : q.Nodup := by simpa using nd_qN h
theorem ks_q {q : List Int} {p : Nat} (h : Qok (qN [q]) p) {k : Int} (hk : k ∈ q) : 0 ≤ k ∧ k < 18446744073709551616 := ks_qN h (by simpa using hk)
theorem len_q {q : List Int} {p : Nat} (h : Qok (qN [q]) p) : q.length ≤ p ∧ p < 50000 := by
  have h1 := h.tot
  rw [tot_qN] at h1
  exact ⟨by simpa using h1, h.p4⟩
theorem find_q (k : Int) (w : World) (hk0 : 0 ≤ k) (hk1 : k < 18446744073709551616) (H : Sta w ps O (qN [q]) p) :
    Calls Try.prog 118 #[P0 ps, .int .u64 k] w fun e w' => e = .returned (.tuple #[.int .i64 0, .bool (decide (k ∈ q))]) ∧ Below w.heap.size w w' := by
  refine (find_k k w hk0 hk1 H).mono ?_
  rintro e w' ⟨t, ok, rfl, hb, h⟩
  rcases h with ⟨rfl, h2, h3⟩ | ⟨rfl, rfl, h3⟩
  · have ht : t = 0 := by simpa using h2
    subst ht
    rw [decide_eq_true (by simpa using h3)]
    exact ⟨rfl, hb⟩
  · rw [decide_eq_false (by simpa using h3)]
    exact ⟨rfl, hb⟩
theorem remove_q (k : Int) (w : World) (hk0 : 0 ≤ k) (hk1 : k < 18446744073709551616) (H : Sta w ps O (qN [q]) p) :
    Calls Try.prog 120 #[P0 ps, .int .u64 k] w fun e w' => (∃ b, e = .returned (.bool b)) ∧ ∃ O', Sta w' ps O' (qN [wo q k]) p ∧ Chg O O' w w' := by
  refine (remove_k k w hk0 hk1 H).mono ?_
  rintro e w' ⟨rfl, O', h1, h2⟩
  exact ⟨⟨_, rfl⟩, O', h1, h2⟩
theorem total_q (w : World) (H : Sta w ps O (qN [q]) p) : Calls Try.prog 179 #[P0 ps] w fun e w' => e = .returned (.int .i64 q.length) ∧ w = w' := by
  have h := total_sta w H
  rw [tot_qN] at h
  simpa using h
theorem keys_q (w : World) (H : Sta w ps O (qN [q]) p) :
    Calls Try.prog 116 #[P0 ps, .int .i64 0] w fun e w' => ∃ v, e = .returned v ∧ KL w' v q ∧ (∀ b, v.ownBlock = some b → w.heap.size ≤ b) ∧ Below w.heap.size w w' := keys_k 0 w (by simp) H
theorem front_q {x : Int} {r : List Int} (w : World) (h : q = x :: r) (H : Sta w ps O (qN [q]) p) :
    Calls Try.prog 193 #[P0 ps, .int .i64 0] w fun e w' => e = .returned (.tuple #[.int .u64 x, .bool true]) ∧ Below w.heap.size w w' := by
  subst h
  refine (front_sta 0 w (by simp [qN]) H).mono ?_
  rintro e w' ⟨k, ok, rfl, hb, hh⟩
  rcases hh with ⟨_, _, hh⟩ | ⟨rfl, e, l, h2, h3⟩
  · simp [qN] at hh
  · simp [qN] at h2
    obtain ⟨h4, h5⟩ := h2
    subst h4
    rw [h3]
    exact ⟨rfl, hb⟩
theorem pushback_q (k : Int) (w : World) (hk0 : 0 ≤ k) (hk1 : k < 18446744073709551616) (hp : p < 49999) (hno : k ∉ q) (H : Sta w ps O (qN [q]) p) :
    Calls Try.prog 191 #[P0 ps, .int .i64 0, .int .u64 k] w fun e w' => e = .returned (.bool true) ∧ ∃ O', Sta w' ps O' (qN [q ++ [k]]) (max p (q.length + 1)) ∧ Chg O O' w w' := by
  have h := pushback_sta 0 k w hk0 hk1 (by simp [qN]) hp (fun h => hno (by simpa using (hasK_qN _ _).1 h)) H
  rw [tot_qN] at h
  have e : insB (qN [q]) 0 ⟨k, 0, 0⟩ = qN [q ++ [k]] := by
    simp [insB, qN, kE]
  rw [e] at h
  simpa using h
end
end Go.Proofs.Ytlakojncjldpbaa
