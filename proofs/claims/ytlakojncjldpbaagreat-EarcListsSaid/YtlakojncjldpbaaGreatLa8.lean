/- The lists' adaptive replacement: Keys, Ghosts. -/
import Derived.Test.YtlakojncjldpbaaGreatLa7
namespace Go.Proofs.YtlakojncjldpbaaGreat
open Go.RowKit Hop
set_option linter.unusedVariables false
set_option linter.unusedSimpArgs false
set_option maxRecDepth 100000
set_option maxHeartbeats 1600000 in
theorem arkeys_any (c p : Int) (v1 v2 v3 v4 : Value) (t u b d : List Int) (w : World) (ht : t.length < 10000) (hu : u.length < 10000) (hd : b.length < 10000) (he : d.length < 10000) (h1 : KL w v1 t) (h2 : KL w v2 u) (h3 : KL w v3 b) (h4 : KL w v4 d) :
    Calls Tryz.prog 33 #[arV c p v1 v2 v3 v4] w fun e w' => ∃ v, e = .returned v ∧ KL w' v (t ++ u) ∧ Below w.heap.size w w' := by
  have hlen : t.length + u.length < 100000 := by omega
  obtain ⟨a1, q1, rfl⟩ := h1.form
  obtain ⟨a2, q2, rfl⟩ := h2.form
  obtain ⟨a3, q3, rfl⟩ := h3.form
  obtain ⟨a4, q4, rfl⟩ := h4.form
  have A1 := (Below.refl w.heap.size w).alloc (Nat.le_refl _) (.cells #[.int .i64 c, .int .i64 p, .slice a1 t.length q1, .slice a2 u.length q2, .slice a3 b.length q3, .slice a4 d.length q4] 55)
  have A2 := A1.alloc (by simp) (.cells #[.slice a1 t.length q1, .slice a2 u.length q2] 27)
  have HCC := Go.Lib.hid (sconcat2_any (w.heap.size + 1) (.slice a1 t.length q1) (.slice a2 u.length q2) t u _ hlen (Blk.new1 w (.cells #[.int .i64 c, .int .i64 p, .slice a1 t.length q1, .slice a2 u.length q2, .slice a3 b.length q3, .slice a4 d.length q4] 55) [.slice a1 t.length q1, .slice a2 u.length q2] 27) (h1.keep A2) (h2.keep A2))
  have HB1 := Go.Lib.hid A2
  clear h1 h2 h3 h4 A1 A2 hlen
  go_enter Tryz.func33, Tryz.ntmps33
  go_wp2_with fail
  refine HCC.out.mono ?_
  rintro e w2 ⟨v, rfl, hk, hb2⟩
  have HK := Go.Lib.hid hk
  have HB2 := Go.Lib.hid (HB1.out.trans (hb2.mono HB1.out.size))
  clear hk hb2
  go_wp2_with fail
  go_ret
  exact ⟨_, rfl, HK.out, HB2.out⟩
theorem armanyU (a1 a2 : Option Addr) (n1 q1 n2 q2 : Nat) (w w0 : World) (B : Nat) (hB : B = w0.heap.size) (hw : w = w0.alloc (.cells #[.slice a1 n1 q1, .slice a2 n2 q2] 27)) (h : n1 + n2 < 1000000) :
    Calls Tryz.prog 68 #[.slice (some ⟨B, 0, none⟩) 2 2] w fun e w' => e = .returned (.int .i64 ((n1 : Int) + (n2 : Int))) ∧ w = w' := by
  subst hB; subst hw
  refine (armany_any w0.heap.size [.slice a1 n1 q1, .slice a2 n2 q2] [n1, n2] _ rfl (fun j v e => ?_) (by simp only [sumN]; omega) (by simp) (Blk.new0 w0 _ _)).mono ?_
  · rcases j with _ | _ | j
    all_goals first | (simp at e; done) | (simp at e; subst e; exact ⟨_, _, _, rfl, rfl⟩) | (simp at e)
  · rintro e w' ⟨rfl, h2⟩
    refine ⟨?_, h2⟩
    have e : ((sumN [n1, n2] : Nat) : Int) = (n1 : Int) + (n2 : Int) := by simp only [sumN]; omega
    rw [e]
set_option maxHeartbeats 1600000 in
theorem arghosts_any (c p : Int) (v1 v2 v3 v4 : Value) (t u b d : List Int) (w : World) (ht : t.length < 10000) (hu : u.length < 10000) (hd : b.length < 10000) (he : d.length < 10000) (h1 : KL w v1 t) (h2 : KL w v2 u) (h3 : KL w v3 b) (h4 : KL w v4 d) :
    Calls Tryz.prog 35 #[arV c p v1 v2 v3 v4] w fun e w' => e = .returned (.int .i64 ((b.length : Int) + (d.length : Int))) ∧ Below w.heap.size w w' := by
  obtain ⟨a1, q1, rfl⟩ := h1.form
  obtain ⟨a2, q2, rfl⟩ := h2.form
  obtain ⟨a3, q3, rfl⟩ := h3.form
  obtain ⟨a4, q4, rfl⟩ := h4.form
  have A1 := (Below.refl w.heap.size w).alloc (Nat.le_refl _) (.cells #[.int .i64 c, .int .i64 p, .slice a1 t.length q1, .slice a2 u.length q2, .slice a3 b.length q3, .slice a4 d.length q4] 55)
  have A2 := A1.alloc (by simp) (.cells #[.slice a3 b.length q3, .slice a4 d.length q4] 27)
  have HM := Go.Lib.hid (armanyU a3 a4 b.length q3 d.length q4 _ _ (w.heap.size + 1) (by simp) (rfl : (w.alloc (.cells #[.int .i64 c, .int .i64 p, .slice a1 t.length q1, .slice a2 u.length q2, .slice a3 b.length q3, .slice a4 d.length q4] 55)).alloc (.cells #[.slice a3 b.length q3, .slice a4 d.length q4] 27) = _) (by omega))
  have HB1 := Go.Lib.hid A2
  clear h1 h2 h3 h4 A1 A2
  go_enter Tryz.func35, Tryz.ntmps35
  go_wp2_with fail
  refine HM.out.mono ?_
  rintro e w2 ⟨rfl, rfl⟩
  go_wp2_with fail
  go_ret
  exact ⟨rfl, HB1.out⟩
end Go.Proofs.YtlakojncjldpbaaGreat
