/- What the four statements' loops need: acts in memory; blocks of other types are not the cache's. -/
import Derived.Test.YtlakojncjldpbaaEawake
namespace Go.Proofs.Ytlakojncjldpbaa
open Go.RowKit Hop
set_option linter.unusedVariables false
set_option linter.unusedSimpArgs false
set_option maxRecDepth 100000
theorem Sta.typ {w : World} {ps : Nat} {O : Nat → Prop} {Q : List (List En)} {p : Nat} (H : Sta w ps O Q p) {b : Nat} {cs : List Value} {T : Nat} (hb : Blk w b cs T)
    (hT : T ≠ 160 ∧ T ≠ 192 ∧ T ≠ 189 ∧ T ≠ 195 ∧ T ≠ 208 ∧ T ≠ 201 ∧ T ≠ 213 ∧ T ≠ 21) : ¬ O b := by
  obtain ⟨L, s, q, rfl, rfl, R, G, rfl⟩ := H
  obtain ⟨t1, t2, t3, t4, t5, t6, t7, t8⟩ := hT
  rintro (e | e | e | e | e | e | e | e)
  · exact hb.ne R.hs t1 e
  · exact hb.ne R.hl t2 e
  · exact hb.ne R.ha t3 e
  · exact hb.ne R.ht t4 e
  · exact hb.ne R.bl t5 e
  · exact hb.ne R.ba t6 e
  · exact hb.ne R.bt t7 e
  · exact frv_ne R.fr hb (Ne.symm t8) b e rfl
theorem Ela.typ {w : World} {px : Nat} {O : Nat → Prop} {L : List Int} {c : Int} {p : Nat} (H : Ela w px O L c p) {b : Nat} {cs : List Value} {T : Nat} (hb : Blk w b cs T) (h0 : T ≠ 113)
    (hT : T ≠ 160 ∧ T ≠ 192 ∧ T ≠ 189 ∧ T ≠ 195 ∧ T ≠ 208 ∧ T ≠ 201 ∧ T ≠ 213 ∧ T ≠ 21) : ¬ O b := by
  obtain ⟨ps, O1, h1, h2, h3, rfl⟩ := H
  rintro (e | e)
  · exact hb.ne h1 h0 e
  · exact h2.typ hb hT e
theorem Ela.kl {w : World} {px : Nat} {O : Nat → Prop} {L L' : List Int} {c : Int} {p : Nat} {v : Value} (H : Ela w px O L c p) (h : KL w v L') : ∀ b, v.ownBlock = some b → ¬ O b := by
  intro b hb
  obtain ⟨_, cs, h'⟩ := Row.lt h hb
  exact H.typ h' (by decide) (by decide)
/-- Acts lie in a slice. -/
def AL (w : World) (v : Value) (A : List Ac) : Prop :=
  ∃ a cap, v = .slice a A.length cap ∧ A.length ≤ maxLen ∧ (∀ x ∈ A, x.ok) ∧ ∀ j x, A[j]? = some x → ∃ ad, a = some ad ∧ ad.block < w.heap.size ∧
    w.cell? (ad.add (j * 3)) = some (.int .u8 x.kind) ∧ w.cell? ⟨(ad.add (j * 3)).block, (ad.add (j * 3)).off + 1, none⟩ = some (.int .u64 x.key) ∧ w.cell? ⟨(ad.add (j * 3)).block, (ad.add (j * 3)).off + 2, none⟩ = some (.int .u16 x.n)
theorem add_block (ad : Addr) (n : Nat) : (ad.add n).block = ad.block := by unfold Addr.add; split <;> rfl
theorem AL.keep {w w' : World} {v : Value} {A : List Ac} (h : AL w v A) (hb : Below w.heap.size w w') : AL w' v A := by
  obtain ⟨a, cap, h1, h2, h3, h4⟩ := h
  refine ⟨a, cap, h1, h2, h3, fun j x hj => ?_⟩
  obtain ⟨ad, g1, g2, g3, g4, g5⟩ := h4 j x hj
  have hs := hb.size
  refine ⟨ad, g1, by omega, ?_, ?_, ?_⟩
  · rw [hb.cell (by rw [add_block]; exact g2)]; exact g3
  · rw [hb.cell (by show (ad.add (j * 3)).block < _; rw [add_block]; exact g2)]; exact g4
  · rw [hb.cell (by show (ad.add (j * 3)).block < _; rw [add_block]; exact g2)]; exact g5
/-- The states behind the acts. -/
def runS (s : LS) (A : List Ac) : LS := A.foldl (fun s x => (doS s x).1) s
structure LS.ok (s : LS) : Prop where
  lo : 1 ≤ s.c
  hi : s.c ≤ 14
theorem sizeF_in {n : Int} (h : 0 ≤ n) : 1 ≤ sizeF n ∧ sizeF n ≤ 14 := by unfold sizeF; omega
theorem capF_id {c : Int} (h : 1 ≤ c ∧ c ≤ 14) : capF c = c := by unfold capF; rw [if_neg (by omega), if_neg (by omega)]
theorem doS_ok {s : LS} {x : Ac} (h : s.ok) (hx : x.ok) : (doS s x).1.ok := by
  have hz := sizeF_in hx.2.2.1
  have hc := capF_id hz
  unfold doS
  simp only
  split
  · exact ⟨h.lo, h.hi⟩
  · split
    · exact ⟨h.lo, h.hi⟩
    · split
      · exact ⟨h.lo, h.hi⟩
      · exact ⟨by show 1 ≤ capF _; rw [hc]; exact hz.1, by show capF _ ≤ 14; rw [hc]; exact hz.2⟩
end Go.Proofs.Ytlakojncjldpbaa
