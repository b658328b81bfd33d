/- The policy of low inter-reference recency, on lists: each act keeps what stays true. -/
import Derived.Test.YtlakojncjldpbaaTl2
namespace Go.Proofs.Ytlakojncjldpbaa
open Go.RowKit Hop
set_option linter.unusedVariables false
set_option linter.unusedSimpArgs false
set_option maxRecDepth 100000
theorem LS.st.drop {s : LS} (h : s.st) (k c : Int) : (LS.mk c (woL s.s k) (wo s.q k)).st := by
  refine ⟨h.ns.sublist ((woL_sub _ _).map _), nodup_wo h.nq k, fun x hx => h.ks x (mem_woL.1 hx).1, fun x hx => ?_⟩
  obtain ⟨h1, h2⟩ := mem_woL.1 hx
  rw [h.cq x h1]
  simp [mem_wo, h2]
theorem LS.st.cap {s : LS} (h : s.st) (c : Int) : (LS.mk c s.s s.q).st := ⟨h.ns, h.nq, h.ks, h.cq⟩
theorem LS.st.forget {s : LS} (h : s.st) (hc : 0 ≤ s.c) : (forgetS s).st := h.sub (forgetF_done s.c s.s h.ns hc).sub _
theorem ok_end {s : LS} (h : s.st) (h1 : 1 ≤ s.c) (h2 : s.c ≤ 14) (h3 : (manyL s.s 2 : Int) ≤ s.c - 1) (h4 : (manyL s.s 2 : Int) + s.q.length ≤ s.c) : (forgetS (pruneS s)).ok := by
  have hp := h.prune
  have D := forgetF_done s.c (pruneL s.s) hp.ns (by omega)
  have e := pruneL_many2 s.s
  have d2 := D.m2
  refine ⟨h1, h2, hp.forget (by show 0 ≤ s.c; omega), ?_, ?_, D.m0⟩
  · show (manyL (forgetF s.c (pruneL s.s)) 2 : Int) ≤ s.c - 1
    omega
  · show (manyL (forgetF s.c (pruneL s.s)) 2 : Int) + s.q.length ≤ s.c
    omega
theorem ok_prune {s : LS} (h : s.st) (h1 : 1 ≤ s.c) (h2 : s.c ≤ 14) (h3 : (manyL s.s 2 : Int) ≤ s.c - 1) (h4 : (manyL s.s 2 : Int) + s.q.length ≤ s.c) (h5 : (manyL s.s 0 : Int) ≤ s.c) : (pruneS s).ok := by
  have e := pruneL_many2 s.s
  have e0 := pruneL_many s.s 0
  refine ⟨h1, h2, h.prune, ?_, ?_, ?_⟩
  · show (manyL (pruneL s.s) 2 : Int) ≤ s.c - 1
    omega
  · show (manyL (pruneL s.s) 2 : Int) + s.q.length ≤ s.c
    omega
  · show (manyL (pruneL s.s) 0 : Int) ≤ s.c
    omega
theorem touchL_ok {s : LS} {k : Int} (h : s.ok) : (touchL s k).ok := by
  obtain ⟨h1, h2, st, h3, h4, h5⟩ := h
  unfold touchL
  split
  · rename_i hk
    rw [st.allNd] at hk
    split
    · rename_i hs
      have T := st.topHot k
      have m2 := many_top s.s k 2 2 st.ns
      have m0 := many_top s.s k 2 0 st.ns
      have hw := wo_len s.q k
      have hq : manyL (⟨k, 2⟩ :: woL s.s k) 2 + (wo s.q k).length ≤ manyL s.s 2 + s.q.length := by
        by_cases e : kindOf s.s k = 2
        · simp [hs, e] at m2
          omega
        · have := wo_len_mem (hk.resolve_right e)
          simp [e] at m2
          omega
      have m0' : manyL (⟨k, 2⟩ :: woL s.s k) 0 ≤ manyL s.s 0 := by
        simp at m0
        omega
      have C := T.coolD h1
      have c1 := C.c
      have c2 := C.m2
      have c3 := C.q
      have c4 := C.m0
      simp only at c1 c2 c3 c4
      exact ok_prune C.st (by rw [c1]; exact h1) (by rw [c1]; exact h2) (by rw [c1]; exact c2) (by rw [c1]; omega) (by rw [c1]; omega)
    · rename_i hs
      have e : kindOf s.s k ≠ 2 := by rw [kindOf_not hs]; decide
      have := wo_len_mem (hk.resolve_right e)
      have m2 := many_top s.s k 1 2 st.ns
      have m0 := many_top s.s k 1 0 st.ns
      simp [hs] at m2 m0
      refine ok_prune (st.topCold k) h1 h2 ?_ ?_ ?_
      · show (manyL (⟨k, 1⟩ :: woL s.s k) 2 : Int) ≤ s.c - 1
        omega
      · show (manyL (⟨k, 1⟩ :: woL s.s k) 2 : Int) + (wo s.q k ++ [k]).length ≤ s.c
        rw [List.length_append, List.length_singleton]
        omega
      · show (manyL (⟨k, 1⟩ :: woL s.s k) 0 : Int) ≤ s.c
        omega
  · exact ⟨h1, h2, st, h3, h4, h5⟩
theorem admitL_ok {s : LS} {k : Int} (h : s.ok) : (admitL s k).1.ok := by
  obtain ⟨h1, h2, st, h3, h4, h5⟩ := h
  unfold admitL
  split
  · exact ⟨h1, h2, st, h3, h4, h5⟩
  · rename_i hk
    have D := st.shrink h3
    simp only
    generalize (shrinkL s (s.c - 1)).1 = t at *
    have dc := D.c
    have da := D.al
    have d2 := D.m2
    have hk2 : kindOf t.s k ≠ 2 := fun e => hk (st.allNd.2 (.inr (D.hot k e)))
    have hkq : k ∉ t.q := fun e => hk (st.allNd.2 (.inl (D.sub k e)))
    split
    · have T := D.st.topHot k
      rw [wo_id hkq] at T
      have m2 := many_top t.s k 2 2 D.st.ns
      simp [hk2] at m2
      have C := T.coolD (by show 1 ≤ t.c; omega)
      have c1 := C.c
      have c2 := C.m2
      have c3 := C.q
      simp only at c1 c2 c3
      show (forgetS (pruneS (coolF (topS t k 2)))).ok
      have e : topS t k 2 = ⟨t.c, ⟨k, 2⟩ :: woL t.s k, t.q⟩ := rfl
      rw [e]
      exact ok_end C.st (by omega) (by omega) (by omega) (by omega)
    · have m2 := many_top t.s k 1 2 D.st.ns
      simp [hk2] at m2
      refine ok_end (D.st.topCold k) (by show 1 ≤ t.c; omega) (by show t.c ≤ 14; omega) ?_ ?_
      · show (manyL (⟨k, 1⟩ :: woL t.s k) 2 : Int) ≤ t.c - 1
        omega
      · show (manyL (⟨k, 1⟩ :: woL t.s k) 2 : Int) + (wo t.q k ++ [k]).length ≤ t.c
        rw [wo_id hkq, List.length_append, List.length_singleton]
        omega
theorem dropL_ok {s : LS} {k : Int} (h : s.ok) : (dropL s k).ok := by
  obtain ⟨h1, h2, st, h3, h4, h5⟩ := h
  have m2 := many_woL st.ns k 2
  have m0 := many_woL st.ns k 0
  have hw := wo_len s.q k
  have T := st.drop k s.c
  have e : dropL s k = pruneS ⟨s.c, woL s.s k, wo s.q k⟩ := rfl
  rw [e]
  exact ok_prune T h1 h2 (by simp only; omega) (by simp only; omega) (by simp only; omega)
theorem resizeL_ok {s : LS} {n : Int} (hn : 1 ≤ capF n ∧ capF n ≤ 14) (h : s.ok) : (resizeL s n).1.ok := by
  obtain ⟨h1, h2, st, h3, h4, h5⟩ := h
  have C := (st.cap (capF n)).coolD hn.1
  have c1 := C.c
  have c2 := C.m2
  simp only at c1 c2
  have D := C.st.shrink (n := capF n) (by omega)
  have d1 := D.c
  have d2 := D.m2
  have d3 := D.al
  unfold resizeL
  simp only
  exact ok_end D.st (by omega) (by omega) (by omega) (by omega)
theorem doL_ok {s : LS} {x : Ac} (h : s.ok) (hx : x.ok) : (doL s x).1.ok := by
  have hz := sizeF_in hx.2.2.1
  have hc := capF_id hz
  unfold doL
  simp only
  split
  · exact touchL_ok h
  · split
    · exact admitL_ok h
    · split
      · exact dropL_ok h
      · exact resizeL_ok (by rw [hc]; exact hz) h
end Go.Proofs.Ytlakojncjldpbaa
