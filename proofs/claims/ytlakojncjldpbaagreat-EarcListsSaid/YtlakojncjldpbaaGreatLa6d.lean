/- The lists' adaptive replacement: Admit. -/
import Derived.Test.YtlakojncjldpbaaGreatLa6
import Derived.Test.YtlakojncjldpbaaGreatLa6b
import Derived.Test.YtlakojncjldpbaaGreatLa6c
namespace Go.Proofs.YtlakojncjldpbaaGreat
open Go.RowKit Hop
set_option linter.unusedVariables false
set_option linter.unusedSimpArgs false
set_option maxRecDepth 100000
theorem evictA_cp (s : AS) (f : Bool) : (evictA s f).1.c = s.c ∧ (evictA s f).1.p = s.p ∧ (evictA s f).1.t.length ≤ s.t.length ∧ (evictA s f).1.u.length ≤ s.u.length := by
  unfold evictA
  split
  · exact ⟨rfl, rfl, by simp, Nat.le_refl _⟩
  · exact ⟨rfl, rfl, Nat.le_refl _, by simp⟩
theorem replA_cp (s : AS) (f : Bool) : (replA s f).1.c = s.c ∧ (replA s f).1.p = s.p ∧ (replA s f).1.t.length ≤ s.t.length ∧ (replA s f).1.u.length ≤ s.u.length := by
  unfold replA
  split
  · exact ⟨rfl, rfl, Nat.le_refl _, Nat.le_refl _⟩
  · exact evictA_cp s _
theorem freshA_cp (s : AS) : (freshA s).1.c = s.c ∧ (freshA s).1.p = s.p ∧ (freshA s).1.t.length ≤ s.t.length := by
  unfold freshA
  split
  · split
    · obtain ⟨h1, h2, h3, _⟩ := replA_cp ⟨s.c, s.p, s.t, s.u, s.b.dropLast, s.d⟩ false
      exact ⟨h1, h2, h3⟩
    · exact ⟨rfl, rfl, by simp⟩
  · split
    · exact ⟨rfl, rfl, Nat.le_refl _⟩
    · split
      · obtain ⟨h1, h2, h3, _⟩ := replA_cp ⟨s.c, s.p, s.t, s.u, s.b, s.d.dropLast⟩ false
        exact ⟨h1, h2, h3⟩
      · obtain ⟨h1, h2, h3, _⟩ := replA_cp s false
        exact ⟨h1, h2, h3⟩
theorem wo_not {L : List Int} {k : Int} (h : ¬ k ∈ L) : wo L k = L := List.filter_eq_self.2 (fun x hx => by
  have : x ≠ k := fun e => h (e ▸ hx)
  simpa using this)
theorem aradmit_any (c p : Int) (v1 v2 v3 v4 : Value) (t u b d : List Int) (k : Int) (w : World) (hc0 : 1 ≤ c) (hc1 : c ≤ 1000) (hp0 : 0 ≤ p) (hp1 : p ≤ 1000) (hap : ¬ (k ∈ b ∧ k ∈ d)) (ht : t.length < 10000) (hu : u.length < 10000) (hd : b.length < 10000) (he : d.length < 10000) (h1 : KL w v1 t) (h2 : KL w v2 u) (h3 : KL w v3 b) (h4 : KL w v4 d) :
    Calls Tryz.prog 27 #[arV c p v1 v2 v3 v4, .int .u64 k] w fun e w' => ∃ u1 u2 u3 u4 vo, e = .returned (.tuple #[arV c (admitA ⟨c, p, t, u, b, d⟩ k).1.p u1 u2 u3 u4, vo]) ∧ KL w' u1 (admitA ⟨c, p, t, u, b, d⟩ k).1.t ∧ KL w' u2 (admitA ⟨c, p, t, u, b, d⟩ k).1.u ∧ KL w' u3 (admitA ⟨c, p, t, u, b, d⟩ k).1.b ∧ KL w' u4 (admitA ⟨c, p, t, u, b, d⟩ k).1.d ∧ KL w' vo (admitA ⟨c, p, t, u, b, d⟩ k).2 ∧ Below w.heap.size w w' := by
  by_cases hk : k ∈ t ++ u
  · rw [show admitA ⟨c, p, t, u, b, d⟩ k = (⟨c, p, t, u, b, d⟩, []) from if_pos hk]
    exact aradmit_in c p v1 v2 v3 v4 t u b d k w hc0 hc1 hp0 hp1 hk ht hu hd he h1 h2 h3 h4
  by_cases hkb : k ∈ b
  · have hkd : ¬ k ∈ d := fun h => hap ⟨hkb, h⟩
    obtain ⟨p2, hp2⟩ : ∃ p2, min (p + max ((d.length : Int) / b.length) 1) c = p2 := ⟨_, rfl⟩
    obtain ⟨r, hr⟩ : ∃ r, replA ⟨c, p2, t, u, wo b k, wo d k⟩ false = r := ⟨_, rfl⟩
    have q := replA_cp ⟨c, p2, t, u, wo b k, wo d k⟩ false
    rw [hr] at q
    obtain ⟨q1, q2, _, q4⟩ := q
    have e : admitA ⟨c, p, t, u, b, d⟩ k = (⟨c, p2, r.1.t, k :: wo r.1.u k, r.1.b, r.1.d⟩, r.2) := by
      unfold admitA
      simp only
      rw [if_neg hk, if_pos hkb]
      unfold knownA knownS
      simp only [Bool.false_eq_true, if_false]
      rw [hp2]
      rw [wo_not hkd] at hr
      rw [hr, q1, q2]
    rw [e]
    exact aradmit_kb c p v1 v2 v3 v4 t u b d k w hc0 hc1 hp0 hp1 hk hkb hkd p2 hp2 r hr (by simp only at q4; omega) ht hu hd he h1 h2 h3 h4
  by_cases hkd : k ∈ d
  · obtain ⟨p2, hp2⟩ : ∃ p2, max (p - max ((b.length : Int) / d.length) 1) 0 = p2 := ⟨_, rfl⟩
    obtain ⟨r, hr⟩ : ∃ r, replA ⟨c, p2, t, u, wo b k, wo d k⟩ true = r := ⟨_, rfl⟩
    have q := replA_cp ⟨c, p2, t, u, wo b k, wo d k⟩ true
    rw [hr] at q
    obtain ⟨q1, q2, _, q4⟩ := q
    have e : admitA ⟨c, p, t, u, b, d⟩ k = (⟨c, p2, r.1.t, k :: wo r.1.u k, r.1.b, r.1.d⟩, r.2) := by
      unfold admitA
      simp only
      rw [if_neg hk, if_neg hkb, if_pos hkd]
      unfold knownA knownS
      simp only [if_true]
      rw [hp2]
      rw [wo_not hkb] at hr
      rw [hr, q1, q2]
    rw [e]
    exact aradmit_kd c p v1 v2 v3 v4 t u b d k w hc0 hc1 hp0 hp1 hk hkb hkd p2 hp2 r hr (by simp only at q4; omega) ht hu hd he h1 h2 h3 h4
  obtain ⟨r, hr⟩ : ∃ r, freshA ⟨c, p, t, u, b, d⟩ = r := ⟨_, rfl⟩
  have q := freshA_cp ⟨c, p, t, u, b, d⟩
  rw [hr] at q
  obtain ⟨q1, q2, q3⟩ := q
  have e : admitA ⟨c, p, t, u, b, d⟩ k = (⟨c, p, k :: wo r.1.t k, r.1.u, r.1.b, r.1.d⟩, r.2) := by
    unfold admitA
    simp only
    rw [if_neg hk, if_neg hkb, if_neg hkd, hr, q1, q2]
  rw [e]
  exact aradmit_new c p v1 v2 v3 v4 t u b d k w hc0 hc1 hp0 hp1 hk hkb hkd r hr (by simp only at q3; omega) ht hu hd he h1 h2 h3 h4
end Go.Proofs.YtlakojncjldpbaaGreat
