/- The reference's lines: the plain law. -/
import Derived.Test.YtddihnnodegkmaaGreatDoorSr1
namespace Go.Proofs.YtddihnnodegkmaaGreatDoor
open Go.RowKit Hop
set_option linter.unusedVariables false
set_option linter.unusedSimpArgs false
/-- What a line's reading tells. -/
def ReadR (l : List UInt8) (o : Op4) (b : Bool) : Prop :=
  o.ok ∧ (b = true → l = lineL o ∧ bareF o = o) ∧ (b = false → ∀ o' : Op4, o'.ok → l ≠ lineL o')
theorem split_eq {a b x y : List UInt8} (c : UInt8) (h : a ++ c :: x = b ++ c :: y) (ha : c ∉ a) (hb : c ∉ b) : a = b ∧ x = y := by
  induction a generalizing b with
  | nil =>
    cases b with
    | nil => injection h with _ h; exact ⟨rfl, h⟩
    | cons d b => injection h with h1 _; exact absurd (by simp [h1]) hb
  | cons d a ih =>
    cases b with
    | nil => injection h with h1 _; exact absurd (by simp [h1]) ha
    | cons d' b =>
      injection h with h1 h2
      obtain ⟨e1, e2⟩ := ih h2 (fun q => ha (by simp [q])) (fun q => hb (by simp [q]))
      exact ⟨by rw [h1, e1], e2⟩
theorem cut_eq (l : List UInt8) (c : UInt8) : (c ∉ (Lib.cut l [c]).1 ∧ (Lib.cut l [c]).2.2 = true ∧ l = (Lib.cut l [c]).1 ++ c :: (Lib.cut l [c]).2.1) ∨ (c ∉ l ∧ Lib.cut l [c] = (l, [], false)) := by
  by_cases h : c ∈ l
  · obtain ⟨a, t, e, ha⟩ := List.append_of_mem' h
    left
    rw [e, cut_clean ha]
    exact ⟨ha, rfl, rfl⟩
  · exact .inr ⟨h, cut_free h⟩
 where
  List.append_of_mem' : ∀ {l : List UInt8}, c ∈ l → ∃ a t, l = a ++ c :: t ∧ c ∉ a
    | d :: l, h => by
      by_cases e : d = c
      · exact ⟨[], l, by rw [e]; rfl, by simp⟩
      · have h' : c ∈ l := by
          rcases List.mem_cons.1 h with h | h
          · exact absurd h.symm e
          · exact h
        obtain ⟨a, t, e1, e2⟩ := List.append_of_mem' h'
        refine ⟨d :: a, t, by rw [e1]; rfl, fun q => ?_⟩
        rcases List.mem_cons.1 q with q | q
        · exact e q.symm
        · exact e2 q
theorem readR_len {l : List UInt8} (h : (32 : UInt8) ∉ l) (b : Bool) (hb : b = true ↔ l = [108, 101, 110]) : ReadR l ⟨5, 0, 0, 0⟩ b := by
  refine ⟨by constructor <;> simp, fun e => ⟨by rw [hb.1 e]; rfl, rfl⟩, fun e o ho q => ?_⟩
  by_cases h5 : o.kind = 5
  · have : lineL o = [108, 101, 110] := by unfold lineL; rw [h5]; rfl
    rw [← q] at this
    rw [hb.2 this] at e; cases e
  · apply h
    rw [q]
    unfold lineL
    (repeat' split) <;> simp_all
theorem readR_get {t : List UInt8} {k : Nat} (h : NatR t k true) : ReadR ([103, 101, 116] ++ 32 :: t) ⟨1, k, 0, 0⟩ true := by
  refine ⟨by constructor <;> simp <;> have := h.1 <;> omega, fun e => ⟨by rw [h.fst]; rfl, rfl⟩, fun e => by cases e⟩
theorem readR_del {t : List UInt8} {k : Nat} (h : NatR t k true) : ReadR ([100, 101, 108, 101, 116, 101] ++ 32 :: t) ⟨3, k, 0, 0⟩ true := by
  refine ⟨by constructor <;> simp <;> have := h.1 <;> omega, fun e => ⟨by rw [h.fst]; rfl, rfl⟩, fun e => by cases e⟩
theorem readR_res {t : List UInt8} {n : Int} (h : IntR t n true) : ReadR ([114, 101, 115, 105, 122, 101] ++ 32 :: t) ⟨4, 0, 0, n⟩ true := by
  obtain ⟨h1, h2, h3, _⟩ := h
  refine ⟨⟨by simp, by simp, by simp, by simp, by simp, by simp, h1, h2⟩, fun e => ⟨by rw [h3 rfl]; rfl, rfl⟩, fun e => by cases e⟩
theorem readR_op {t : List UInt8} {n : Int} (h : IntR t n true) (hn : n < 1 ∨ 5 < n) : ReadR ([111, 112] ++ 32 :: t) ⟨n, 0, 0, 0⟩ true := by
  obtain ⟨h1, h2, h3, _⟩ := h
  have a1 : ¬ n = 1 := by omega
  have a2 : ¬ n = 2 := by omega
  have a3 : ¬ n = 3 := by omega
  have a4 : ¬ n = 4 := by omega
  have a5 : ¬ n = 5 := by omega
  refine ⟨⟨h1, h2, by simp, by simp, by simp, by simp, by simp, by simp⟩, fun e => ⟨?_, ?_⟩, fun e => by cases e⟩
  · rw [h3 rfl]; unfold lineL; simp [a1, a2, a3, a4, a5]
  · unfold bareF; simp [a1, a2, a3, a4]
theorem readR_no {l : List UInt8} {o : Op4} (ho : o.ok) (h : ∀ o' : Op4, o'.ok → l ≠ lineL o') : ReadR l o false := ⟨ho, (fun e => by cases e), fun _ => h⟩
theorem ok_kind {n : Int} (h1 : -9223372036854775808 ≤ n) (h2 : n ≤ 9223372036854775807) : Op4.ok ⟨n, 0, 0, 0⟩ := ⟨h1, h2, by simp, by simp, by simp, by simp, by simp, by simp⟩
/-- The word ahead of the first space, and what is behind it, are told by the line. -/
theorem line_word {wd t : List UInt8} (hw : (32 : UInt8) ∉ wd) {o : Op4} (e : wd ++ 32 :: t = lineL o) :
    (o.kind = 1 ∧ wd = [103, 101, 116] ∧ t = Lib.decDigits o.key.toNat) ∨ (o.kind = 2 ∧ wd = [112, 117, 116] ∧ t = Lib.decDigits o.key.toNat ++ 32 :: Lib.decDigits o.val.toNat) ∨
    (o.kind = 3 ∧ wd = [100, 101, 108, 101, 116, 101] ∧ t = Lib.decDigits o.key.toNat) ∨ (o.kind = 4 ∧ wd = [114, 101, 115, 105, 122, 101] ∧ t = Lib.itoa o.n) ∨
    (¬ o.kind = 1 ∧ ¬ o.kind = 2 ∧ ¬ o.kind = 3 ∧ ¬ o.kind = 4 ∧ ¬ o.kind = 5 ∧ wd = [111, 112] ∧ t = Lib.itoa o.kind) := by
  unfold lineL at e
  split at e
  · rename_i h; exact .inl ⟨h, split_eq 32 e hw (by decide)⟩
  split at e
  · rename_i h; exact .inr (.inl ⟨h, split_eq 32 e hw (by decide)⟩)
  split at e
  · rename_i h; exact .inr (.inr (.inl ⟨h, split_eq 32 e hw (by decide)⟩))
  split at e
  · rename_i h; exact .inr (.inr (.inr (.inl ⟨h, split_eq 32 e hw (by decide)⟩)))
  split at e
  · exfalso
    have : (32 : UInt8) ∈ [108, 101, 110] := by rw [← e]; simp
    revert this; decide
  · rename_i h1 h2 h3 h4 h5; exact .inr (.inr (.inr (.inr ⟨h1, h2, h3, h4, h5, split_eq 32 e hw (by decide)⟩)))
theorem readR_put {t : List UInt8} {k v : Nat} {b : Bool} (h1 : NatR (Lib.cut t [32]).1 k true) (h2 : NatR (Lib.cut t [32]).2.1 v true) : ReadR ([112, 117, 116] ++ 32 :: t) ⟨2, k, v, 0⟩ true := by
  refine ⟨⟨by simp, by simp, by simp, by have := h1.1; simp; omega, by simp, by have := h2.1; simp; omega, by simp, by simp⟩, fun _ => ⟨?_, rfl⟩, fun e => by cases e⟩
  rcases cut_eq t 32 with ⟨a, _, e⟩ | ⟨a, e⟩
  · conv => lhs; rw [e]
    rw [h1.fst, h2.fst]
    rfl
  · rw [e] at h2
    exact absurd h2.fst.symm (digits_ne v)
theorem readR_put_not {t : List UInt8} {k v : Nat} {a b : Bool} (h1 : NatR (Lib.cut t [32]).1 k a) (h2 : NatR (Lib.cut t [32]).2.1 v b) (hn : a = false ∨ b = false) : ReadR ([112, 117, 116] ++ 32 :: t) ⟨0, 0, 0, 0⟩ false := by
  refine readR_no (ok_kind (by omega) (by omega)) fun o ho e => ?_
  rcases line_word (by decide) e with ⟨_, q, _⟩ | ⟨_, _, q⟩ | ⟨_, q, _⟩ | ⟨_, q, _⟩ | ⟨_, _, _, _, _, q, _⟩ <;> try (revert q; decide)
  rw [q, cut_clean (no32_digits _)] at h1 h2
  have b1 := ho.y1
  have b2 := ho.v1
  rcases hn with hn | hn
  · subst hn; exact h1.2.2 rfl _ (by omega) rfl
  · subst hn; exact h2.2.2 rfl _ (by omega) rfl
/-- No word of an operation's, or what is behind it is none's. -/
theorem readR_rest {wd t : List UInt8} {k : Nat} {n : Int} {a b : Bool} (hw : (32 : UInt8) ∉ wd) (hk : NatR t k a) (hn : IntR t n b)
    (g1 : wd = [103, 101, 116] → a = false) (g2 : wd ≠ [112, 117, 116]) (g3 : wd = [100, 101, 108, 101, 116, 101] → a = false) (g4 : wd = [114, 101, 115, 105, 122, 101] → b = false)
    (g5 : wd = [111, 112] → b = true → 1 ≤ n ∧ n ≤ 5) : ReadR (wd ++ 32 :: t) ⟨n, 0, 0, 0⟩ false := by
  refine readR_no (ok_kind hn.1 hn.2.1) fun o ho e => ?_
  have b1 := ho.y1
  have itoa_inj : b = true → ∀ m, t = Lib.itoa m → -9223372036854775808 ≤ m → m ≤ 9223372036854775807 → n = m := by
    intro hb m e1 m0 m1
    have e2 := hn.2.2.1 hb
    have q1 := aL_itoa hn.1 hn.2.1
    have q2 := aL_itoa m0 m1
    rw [← e2] at q1
    rw [← e1] at q2
    rw [← q1, q2]
  rcases line_word hw e with ⟨_, q, r⟩ | ⟨_, q, _⟩ | ⟨_, q, r⟩ | ⟨_, q, r⟩ | ⟨h1, h2, h3, h4, h5, q, r⟩
  · rw [g1 q] at hk; exact hk.2.2 rfl _ (by omega) r
  · exact g2 q
  · rw [g3 q] at hk; exact hk.2.2 rfl _ (by omega) r
  · rw [g4 q] at hn; exact hn.2.2.2 rfl _ ho.n0 ho.n1 r
  · cases b with
    | false => exact hn.2.2.2 rfl _ ho.k0 ho.k1 r
    | true =>
      have := itoa_inj rfl _ r ho.k0 ho.k1
      have := g5 q rfl
      omega
theorem readR_is {s : ByteArray} {o : Op4} {b : Bool} (h : ReadR s.data.toList o b) : b = okL s ∧ (okL s = true → o = rdF s) := by
  obtain ⟨h1, h2, h3⟩ := h
  cases b with
  | true =>
    obtain ⟨e1, e2⟩ := h2 rfl
    have e : s = lineF o := ba_ext (by rw [e1, lineF_data])
    rw [e]
    exact ⟨(okL_line h1).symm, fun _ => by rw [rdF_line h1, e2]⟩
  | false =>
    have : okL s = false := by
      cases hk : okL s with
      | false => rfl
      | true => exact absurd (by rw [← lineF_data, okL_eq hk]) (h3 rfl (rdF s) (rdF_ok s))
    exact ⟨this.symm, fun q => by rw [this] at q; cases q⟩
end Go.Proofs.YtddihnnodegkmaaGreatDoor
