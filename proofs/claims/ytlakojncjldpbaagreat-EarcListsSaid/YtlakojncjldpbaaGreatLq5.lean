/- seq.Front, Back, Fall. -/
import Derived.Test.YtlakojncjldpbaaGreatLq4
import Derived.Deep.RegionHeld3
namespace Go.Proofs.YtlakojncjldpbaaGreat
open Go.RowKit Hop
set_option linter.unusedVariables false
set_option linter.unusedSimpArgs false
set_option maxRecDepth 100000
set_option maxHeartbeats 800000 in
theorem sqfront_any (v : Value) (L : List Int) (k : Int) (w : World) (hsm : L.length < 100000) (h : KL w v L) :
    Calls Tryz.prog 65 #[v, .int .u64 k] w fun e w' => ∃ v', e = .returned v' ∧ LNew w w' v' (k :: wo L k) := by
  have HC := Go.Lib.hid (sqwo_any v L k w hsm h)
  have hwl := wo_len L k
  have HI := Go.Lib.hid (fun (w1 : World) (v1 : Value) (hk : KL w1 v1 (wo L k)) (ho : ∀ g, v1.ownBlock = some g → w.heap.size ≤ g) (hs : w.heap.size ≤ w1.heap.size) =>
    ins_any w1.heap.size v1 (wo L k) k (w1.alloc (.cells #[.int .u64 k] 32)) w.heap.size (by omega) (by simp; omega) (hk.keep ((Below.refl _ _).alloc (Nat.le_refl _) _)) (fun g hg => ⟨ho g hg, by have := (hk.lt hg).1; omega⟩) (Blk.new0 w1 [.int .u64 k] 32))
  clear h
  go_enter Tryz.func65, Tryz.ntmps65
  go_wp2_with fail
  refine HC.out.mono ?_
  rintro e w1 ⟨v1, rfl, hk1, ho1, hb1⟩
  have HK := Go.Lib.hid (HI.out w1 v1 hk1 ho1 hb1.size)
  have HB := Go.Lib.hid (hb1.alloc hb1.size (.cells #[.int .u64 k] 32))
  clear hk1 ho1 hb1 HI HC
  go_wp2_with fail
  refine HK.out.mono ?_
  rintro e w2 ⟨v2, rfl, hk2, ho2, hb2⟩
  have HN : Hid (LNew w w2 v2 (k :: wo L k)) := Go.Lib.hid ⟨hk2, ho2, HB.out.trans hb2⟩
  clear hk2 ho2 hb2
  go_wp2_with fail
  go_ret
  exact ⟨_, rfl, HN.out⟩
/-- A list's begin is its slice's. -/
theorem KL.pre {w : World} {a : Option Addr} {n cap : Nat} {L : List Int} (h : KL w (.slice a n cap) L) {m : Nat} (hm : m ≤ L.length) : KL w (.slice a m cap) (L.take m) := by
  have hz : (L.take m).length = m := by rw [List.length_take]; omega
  unfold KL
  rw [hz]
  refine ⟨by simp; omega, ?_⟩
  rcases h.2 with ⟨e, h0⟩ | ⟨g, c, cs, e, h1, h2, h3, h4, h5⟩
  · injection e with e1 e2 e3
    have : m = 0 := by omega
    subst this
    exact .inl ⟨by rw [e1, e3], rfl⟩
  · injection e with e1 e2 e3
    subst e1; subst e3
    refine .inr ⟨g, cap, cs, rfl, h1, by omega, h3, h4, ?_⟩
    rw [Nat.mul_one] at h5 ⊢
    rw [List.map_take, ← h5, List.take_take, Nat.min_eq_left hm]
set_option maxHeartbeats 1600000 in
theorem sqback_any (v : Value) (A : List Int) (x : Int) (w : World) (hsm : A.length < 100000) (h : KL w v (A ++ [x])) :
    Calls Tryz.prog 122 #[v] w fun e w' => ∃ v', e = .returned (.tuple #[.int .u64 x, v', .bool true]) ∧ LNew w w' v' A := by
  obtain ⟨a, cap, rfl⟩ := h.form
  obtain ⟨g, rfl, hc1, hc2, hcell⟩ := h.cell (j := A.length) (by simp)
  have hl := (h.lt (b := g) rfl).1
  have hx : (A ++ [x])[A.length] = x := by simp
  have e : (A ++ [x]).length = A.length + 1 := by simp
  have hp := h.pre (m := A.length) (by simp)
  rw [List.take_left' rfl] at hp
  simp only [hx, e] at hcell hc1 ⊢
  unfold maxLen at hc2
  have HS0 := Go.Lib.hid (show w.drew.cell? ⟨g, A.length, none⟩ = some (.int .u64 x) from hcell)
  have HC := Go.Lib.hid (slclone_any _ A w.drew hsm (hp.keep (Below.refl _ _).drew))
  have HS := Go.Lib.hid (fun w' (hb : Below w.drew.heap.size w.drew w') => show w'.cell? ⟨g, A.length, none⟩ = some (.int .u64 x) from (hb.cell (p := ⟨g, A.length, none⟩) hl).trans hcell)
  have HD := Go.Lib.hid ((Below.refl w.heap.size w).drew)
  clear hx e h hp
  have i0 : (0 : Int) ≤ (A.length : Int) := by omega
  have i1 : (A.length : Int) < (A.length : Int) + 1 := by omega
  have i2 : (A.length : Int) ≤ (cap : Int) := by omega
  have i3 : A.length < A.length + 1 := by omega
  have i4 : A.length ≤ cap := by omega
  go_enter Tryz.func122, Tryz.ntmps122
  go_wp2_with fail
  go_region_held3 (fun W' => W'.cell? ⟨g, A.length, none⟩ = some (.int .u64 x))
    (first | with_reducible exact HS.out _ hb1 | exact HS0.out)
    (first | (go_at_call 118; refine HC.out.mono ?_; rintro e w1 ⟨v1, rfl, hk1, ho1, hb1⟩))
  have HN : Hid (LNew w w1 v1 A) := Go.Lib.hid ⟨hk1, ho1, HD.out.trans hb1⟩
  clear hk1 ho1 hb1
  go_wp2_with fail
  refine bodyPost_ret (v := .tuple #[.int .u64 x, v1, .bool true]) (by simp [results, Tryz.results122, go_sem]) rfl ⟨v1, rfl, HN.out⟩
theorem sqback_nil (v : Value) (w : World) (h : KL w v []) :
    Calls Tryz.prog 122 #[v] w fun e w' => e = .returned (.tuple #[.int .u64 0, .slice none 0 0, .bool false]) ∧ w = w' := by
  obtain ⟨a, cap, rfl⟩ := h.form
  simp only [List.length_nil]
  clear h
  go_enter Tryz.func122, Tryz.ntmps122
  go_wp2_with fail
  refine bodyPost_ret (v := .tuple #[.int .u64 0, .slice none 0 0, .bool false]) (by simp [results, Tryz.results122, go_sem]) rfl ⟨rfl, rfl⟩
/-- What falls off a list's back, the last first. -/
def fallF (L : List Int) (n : Int) : List Int := (L.drop n.toNat).reverse
end Go.Proofs.YtlakojncjldpbaaGreat
