/- Alloc, whichever way it goes. -/
import Derived.Test.YtlakojncjldpbaaFree
import Derived.Test.YtlakojncjldpbaaEff2
namespace Go.Proofs.Ytlakojncjldpbaa
open Go.RowKit Hop
set_option linter.unusedVariables false
set_option linter.unusedSimpArgs false
set_option maxRecDepth 100000
theorem frv_nil {w : World} {v : Value} (h : Frv w v []) : ∃ a c, v = .slice a 0 c := by
  rcases h.2 with ⟨h1, _⟩ | ⟨g, cap, cs, h1, _⟩
  · exact ⟨_, _, h1⟩
  · exact ⟨_, _, h1⟩
theorem frv_last {w : World} {v : Value} {l : List Int} {i : Int} (h : Frv w v (l ++ [i])) :
    ∃ g cap cs, v = .slice (some ⟨g, 0, none⟩) (l.length + 1) cap ∧ l.length < cap ∧ cap ≤ maxLen ∧ Blk w g cs 21 ∧ cs[l.length]? = some (.int .i32 i) ∧ cs.take l.length = l.map (Value.int .i32) ∧ l.length ≤ cs.length := by
  obtain ⟨hl, h⟩ := h
  rcases h with ⟨_, h⟩ | ⟨g, cap, cs, h1, h2, h3, h4, h5, h6⟩
  · simp at h
  · simp only [List.length_append, List.length_singleton, Nat.mul_one] at h1 h3 h5 h6
    refine ⟨g, cap, cs, h1, by omega, h4, h2, ?_, ?_, by omega⟩
    · have e : (cs.take (l.length + 1))[l.length]? = cs[l.length]? := by rw [List.getElem?_take]; simp
      rw [← e, h6]
      simp
    · have e : cs.take l.length = (cs.take (l.length + 1)).take l.length := by rw [List.take_take]; congr 1; omega
      rw [e, h6]
      simp
structure Alc (S : List Sl) (n : Nat) (pa ba : Nat) (fv : Value) (lv : Int) (w w' : World) (i : Int) (S1 : List Sl) (fs1 : List Int) (nx1 : Int) (fv1 : Value) (ba1 : Nat) : Prop where
  tk : Took S S1 i
  ai : AI S1 fs1 nx1 (n + 1)
  fr : Fr (fun k => k = pa ∨ k = ba) w w'
  ha : Blk w' pa [S0 ba1 S1.length, fv1, .int .i64 nx1, .int .i64 (lv + 1)] 189
  hb : Blk w' ba1 (flat encS S1) 201
  hf : Frv w' fv1 fs1
  own : fv1.ownBlock = fv.ownBlock
  ob : ba1 = ba ∨ w.heap.size ≤ ba1
  len : S1.length = S.length ∨ (S1.length = 2 * S.length ∧ S.length = n + 1)
theorem alloc_any (pa ba : Nat) (S : List Sl) (fs : List Int) (next lv : Int) (n : Nat) (fv : Value) (w : World) (A : AI S fs next n) (hn : S.length < 500000) (hlv : 0 ≤ lv ∧ lv < 1000000) (hF : Frv w fv fs)
    (ha : Blk w pa [S0 ba S.length, fv, .int .i64 next, .int .i64 lv] 189) (hb : Blk w ba (flat encS S) 201) :
    Calls Try.prog 216 #[P0 pa] w fun e w' => ∃ i S1 fs1 nx1 fv1 ba1, e = .returned (.int .i32 i) ∧ Alc S n pa ba fv lv w w' i S1 fs1 nx1 fv1 ba1 := by
  have lo := A.lo
  have hi := A.hi
  have nofv : ∀ k, fv.ownBlock = some k → ¬ (k = pa ∨ k = ba) := by
    intro k hk
    obtain ⟨_, cs, h⟩ := hF.lt hk
    rintro (rfl | rfl)
    · exact h.ne ha (by decide) rfl
    · exact h.ne hb (by decide) rfl
  rcases List.eq_nil_or_concat fs with rfl | ⟨l, i, rfl⟩
  · by_cases hr : next < S.length
    · obtain ⟨A1, T1⟩ := A.room hr
      refine (alloc_room pa ba S fv next lv w (by omega) (by omega) hr hlv (frv_nil hF) ha hb).mono ?_
      rintro e w' ⟨rfl, hf, ha', hb'⟩
      exact ⟨_, _, _, _, _, ba, rfl, T1, A1, hf, by rw [st_length]; exact ha', hb', hF.frame hf nofv, rfl, .inl rfl, .inl (st_length _ _ _)⟩
    · have e : next = S.length := by omega
      subst e
      obtain ⟨A1, T1⟩ := (A.more (m := S.length)).room (by simp; omega)
      have hcn := A.cn
      refine (alloc_grow pa ba S fv lv w hn (by omega) hlv (frv_nil hF) ha hb).mono ?_
      rintro e w' ⟨rfl, ba1, hge, hf, ha', hb'⟩
      have hlen : (st (S ++ List.replicate S.length Sl.z) S.length ⟨Nd.z, true⟩).length = 2 * S.length := by rw [st_length]; simp; omega
      refine ⟨_, _, _, _, _, ba1, rfl, ⟨T1.lo, T1.hi, ?_, ?_, ?_⟩, A1, hf, by rw [hlen]; exact ha', hb', hF.frame hf nofv, rfl, .inr hge, .inr ⟨hlen, ?_⟩⟩
      · rw [← isT_more S S.length]; exact T1.was
      · intro j; rw [T1.tk, isT_more]
      · intro j; rw [T1.nd, ndT_more]
      · simp at hcn; omega
  · rw [List.concat_eq_append] at A hF
    obtain ⟨A1, T1⟩ := A.freed
    obtain ⟨g, cap, cs, rfl, h1, h2, h3, h4, h5, h6⟩ := frv_last hF
    obtain ⟨f0, f1, f2⟩ := A.fr i (by simp)
    refine (alloc_freed pa ba S next lv g l.length cap cs i w (by omega) f0 (by omega) hlv h1 (by unfold maxLen at h2; omega) (by omega) h3 h4 ha hb).mono ?_
    rintro e w' ⟨rfl, hf, ha', hb'⟩
    have hg : Blk w' g cs 21 := hf.blk (nofv g rfl) h3
    refine ⟨_, _, _, _, _, ba, rfl, T1, A1, hf, by rw [st_length]; exact ha', hb', ⟨by simp, .inr ⟨g, l.length, cs, rfl, hg, by omega, by omega, by omega, by rw [Nat.mul_one]; exact h5⟩⟩, rfl, .inl rfl, .inl (st_length _ _ _)⟩
end Go.Proofs.Ytlakojncjldpbaa
