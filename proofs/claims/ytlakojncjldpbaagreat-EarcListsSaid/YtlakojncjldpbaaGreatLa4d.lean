/- The lists' adaptive replacement: fresh. -/
import Derived.Test.YtlakojncjldpbaaGreatLa4
import Derived.Test.YtlakojncjldpbaaGreatLa4b
import Derived.Test.YtlakojncjldpbaaGreatLa4c
namespace Go.Proofs.YtlakojncjldpbaaGreat
open Go.RowKit Hop
set_option linter.unusedVariables false
set_option linter.unusedSimpArgs false
set_option maxRecDepth 100000
theorem arfresh_any (c p : Int) (v1 v2 v3 v4 : Value) (t u b d : List Int) (w : World) (hc0 : 1 ≤ c) (hc1 : c ≤ 1000) (ht : t.length < 10000) (hu : u.length < 10000) (hd : b.length < 10000) (he : d.length < 10000) (h1 : KL w v1 t) (h2 : KL w v2 u) (h3 : KL w v3 b) (h4 : KL w v4 d) :
    Calls Tryz.prog 66 #[arV c p v1 v2 v3 v4] w fun e w' => ∃ u1 u2 u3 u4 vo, e = .returned (.tuple #[arV c p u1 u2 u3 u4, vo]) ∧ KL w' u1 (freshA ⟨c, p, t, u, b, d⟩).1.t ∧ KL w' u2 (freshA ⟨c, p, t, u, b, d⟩).1.u ∧ KL w' u3 (freshA ⟨c, p, t, u, b, d⟩).1.b ∧ KL w' u4 (freshA ⟨c, p, t, u, b, d⟩).1.d ∧ KL w' vo (freshA ⟨c, p, t, u, b, d⟩).2 ∧ Below w.heap.size w w' := by
  by_cases g1 : (t.length : Int) + (b.length : Int) < c
  · by_cases g2 : (t.length : Int) + (u.length : Int) + (b.length : Int) + (d.length : Int) < c
    · rw [show freshA ⟨c, p, t, u, b, d⟩ = (⟨c, p, t, u, b, d⟩, []) by unfold freshA; simp only; rw [if_neg (by omega), if_pos g2]]
      exact arfresh_no c p v1 v2 v3 v4 t u b d w hc0 hc1 g1 g2 ht hu hd he h1 h2 h3 h4
    by_cases g3 : 2 * c ≤ (t.length : Int) + (u.length : Int) + (b.length : Int) + (d.length : Int)
    · have e : freshA ⟨c, p, t, u, b, d⟩ = replA ⟨c, p, t, u, b, d.dropLast⟩ false := by
        unfold freshA
        simp only
        rw [if_neg (by omega), if_neg g2]
        by_cases hd0 : 0 < d.length
        · rw [if_pos ⟨g3, hd0⟩]
        · rw [if_neg (fun h => hd0 h.2), List.eq_nil_of_length_eq_zero (l := d) (by omega)]
          rfl
      rw [e]
      exact arfresh_two c p v1 v2 v3 v4 t u b d w hc0 hc1 g1 g2 g3 ht hu hd he h1 h2 h3 h4
    · rw [show freshA ⟨c, p, t, u, b, d⟩ = replA ⟨c, p, t, u, b, d⟩ false by unfold freshA; simp only; rw [if_neg (by omega), if_neg g2, if_neg (fun h => g3 h.1)]]
      exact arfresh_mid c p v1 v2 v3 v4 t u b d w hc0 hc1 g1 g2 g3 ht hu hd he h1 h2 h3 h4
  · by_cases g4 : (t.length : Int) < c
    · rw [show freshA ⟨c, p, t, u, b, d⟩ = replA ⟨c, p, t, u, b.dropLast, d⟩ false by unfold freshA; simp only; rw [if_pos (by omega), if_pos g4]]
      exact arfresh_cut c p v1 v2 v3 v4 t u b d w hc0 hc1 g1 g4 ht hu hd he h1 h2 h3 h4
    · rw [show freshA ⟨c, p, t, u, b, d⟩ = (⟨c, p, t.dropLast, u, b, d⟩, [t.getLastD 0]) by unfold freshA; simp only; rw [if_pos (by omega), if_neg g4]]
      exact arfresh_last c p v1 v2 v3 v4 t u b d w hc0 hc1 g1 g4 ht hu hd he h1 h2 h3 h4
end Go.Proofs.YtlakojncjldpbaaGreat
