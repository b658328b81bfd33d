/- The lists' two queues: a state in hand; Has, Touch, New, Ghosts, Keys. -/
import Derived.Test.YtlakojncjldpbaaLt3
import Derived.Test.YtlakojncjldpbaaGApp
namespace Go.Proofs.Ytlakojncjldpbaa
open Go.RowKit Hop
set_option linter.unusedVariables false
set_option linter.unusedSimpArgs false
set_option maxRecDepth 100000
/-- A function's state, in its first own block; its second is the result's. -/
structure TwS (w W : World) (c : Int) (v1 v2 v3 : Value) (i o m : List Int) : Prop where
  b0 : Blk W w.heap.size (twC c v1 v2 v3) 66
  b1 : Blk W (w.heap.size + 1) (twC 0 (.slice none 0 0) (.slice none 0 0) (.slice none 0 0)) 66
  k1 : KL W v1 i
  k2 : KL W v2 o
  k3 : KL W v3 m
  hb : Below w.heap.size w W
section
variable {w W : World} {c : Int} {v1 v2 v3 : Value} {i o m : List Int}
theorem TwS.start (h1 : KL w v1 i) (h2 : KL w v2 o) (h3 : KL w v3 m) : TwS w ((w.alloc (.cells #[.int .i64 c, v1, v2, v3] 66)).alloc (.cells #[.int .i64 0, .slice none 0 0, .slice none 0 0, .slice none 0 0] 66)) c v1 v2 v3 i o m := by
  have B0 : Below w.heap.size w ((w.alloc (.cells #[.int .i64 c, v1, v2, v3] 66)).alloc (.cells #[.int .i64 0, .slice none 0 0, .slice none 0 0, .slice none 0 0] 66)) := ((Below.refl _ _).alloc (Nat.le_refl _) _).alloc (by simp) _
  have q := Blk.new0 (w.alloc (.cells #[.int .i64 c, v1, v2, v3] 66)) (twC 0 (.slice none 0 0) (.slice none 0 0) (.slice none 0 0)) 66
  rw [World.size_alloc] at q
  exact ⟨(Blk.new0 w (twC c v1 v2 v3) 66).alloc _, q, h1.keep B0, h2.keep B0, h3.keep B0, B0⟩
theorem TwS.keep (h : TwS w W c v1 v2 v3 i o m) {W' : World} (hb : Below W.heap.size W W') : TwS w W' c v1 v2 v3 i o m := ⟨h.b0.keep hb, h.b1.keep hb, h.k1.keep hb, h.k2.keep hb, h.k3.keep hb, h.hb.trans (hb.mono h.hb.size)⟩
theorem TwS.cells (h : TwS w W c v1 v2 v3 i o m) : W.cell? ⟨w.heap.size, 0, none⟩ = some (.int .i64 c) ∧ W.cell? ⟨w.heap.size, 1, none⟩ = some v1 ∧ W.cell? ⟨w.heap.size, 2, none⟩ = some v2 ∧ W.cell? ⟨w.heap.size, 3, none⟩ = some v3 := ⟨h.b0.cell 0, h.b0.cell 1, h.b0.cell 2, h.b0.cell 3⟩
theorem TwS.zeros (h : TwS w W c v1 v2 v3 i o m) : W.cell? ⟨w.heap.size + 1, 0, none⟩ = some (.int .i64 0) ∧ W.cell? ⟨w.heap.size + 1, 1, none⟩ = some (.slice none 0 0) ∧ W.cell? ⟨w.heap.size + 1, 2, none⟩ = some (.slice none 0 0) ∧ W.cell? ⟨w.heap.size + 1, 3, none⟩ = some (.slice none 0 0) := ⟨h.b1.cell 0, h.b1.cell 1, h.b1.cell 2, h.b1.cell 3⟩
/-- A world with four cells of a block set. -/
abbrev set4 (W : World) (b : Nat) (c : Int) (u1 u2 u3 : Value) : World := (((W.setCell ⟨b, 0, none⟩ (.int .i64 c)).setCell ⟨b, 1, none⟩ u1).setCell ⟨b, 2, none⟩ u2).setCell ⟨b, 3, none⟩ u3
theorem Fr.set4 (W : World) (b : Nat) (c : Int) (u1 u2 u3 : Value) : Fr (fun k => k = b) W (set4 W b c u1 u2 u3) := ((((Fr.refl (fun k => k = b) W).setEq rfl _).setEq rfl _).setEq rfl _).setEq rfl _
theorem TwS.put4 (h : TwS w W c v1 v2 v3 i o m) (c' : Int) {u1 u2 u3 : Value} {i' o' m' : List Int} (k1 : KL W u1 i') (k2 : KL W u2 o') (k3 : KL W u3 m') : TwS w (Go.Proofs.Ytlakojncjldpbaa.set4 W w.heap.size c' u1 u2 u3) c' u1 u2 u3 i' o' m' := by
  have F := Fr.set4 W w.heap.size c' u1 u2 u3
  exact ⟨(((h.b0.set 0 _).set 1 _).set 2 _).set 3 _, F.blk (fun e => by omega) h.b1, k1.fr2 F (fun g hg e => k1.ne h.b0 (by decide) g hg e), k2.fr2 F (fun g hg e => k2.ne h.b0 (by decide) g hg e), k3.fr2 F (fun g hg e => k3.ne h.b0 (by decide) g hg e), below_fr h.hb F (Nat.le_refl _) (fun i hi => by omega)⟩
theorem TwS.side (h : TwS w W c v1 v2 v3 i o m) {c' : Int} {u1 u2 u3 v : Value} {L : List Int} (k : KL W v L) : KL (Go.Proofs.Ytlakojncjldpbaa.set4 W w.heap.size c' u1 u2 u3) v L := k.fr2 (Fr.set4 W w.heap.size c' u1 u2 u3) (fun g hg e => k.ne h.b0 (by decide) g hg e)
theorem TwS.put1 (h : TwS w W c v1 v2 v3 i o m) {u : Value} {L : List Int} (k : KL W u L) : TwS w (W.setCell ⟨w.heap.size, 1, none⟩ u) c u v2 v3 L o m := by
  have F : Fr (fun k => k = w.heap.size) W (W.setCell ⟨w.heap.size, 1, none⟩ u) := (Fr.refl (fun k => k = w.heap.size) W).setEq rfl _
  exact ⟨h.b0.set 1 _, F.blk (fun e => by omega) h.b1, k.fr2 F (fun g hg e => k.ne h.b0 (by decide) g hg e), h.k2.fr2 F (fun g hg e => h.k2.ne h.b0 (by decide) g hg e), h.k3.fr2 F (fun g hg e => h.k3.ne h.b0 (by decide) g hg e), below_fr h.hb F (Nat.le_refl _) (fun i hi => by omega)⟩
theorem TwS.put2 (h : TwS w W c v1 v2 v3 i o m) {u : Value} {L : List Int} (k : KL W u L) : TwS w (W.setCell ⟨w.heap.size, 2, none⟩ u) c v1 u v3 i L m := by
  have F : Fr (fun k => k = w.heap.size) W (W.setCell ⟨w.heap.size, 2, none⟩ u) := (Fr.refl (fun k => k = w.heap.size) W).setEq rfl _
  exact ⟨h.b0.set 2 _, F.blk (fun e => by omega) h.b1, h.k1.fr2 F (fun g hg e => h.k1.ne h.b0 (by decide) g hg e), k.fr2 F (fun g hg e => k.ne h.b0 (by decide) g hg e), h.k3.fr2 F (fun g hg e => h.k3.ne h.b0 (by decide) g hg e), below_fr h.hb F (Nat.le_refl _) (fun i hi => by omega)⟩
theorem TwS.put3 (h : TwS w W c v1 v2 v3 i o m) {u : Value} {L : List Int} (k : KL W u L) : TwS w (W.setCell ⟨w.heap.size, 3, none⟩ u) c v1 v2 u i o L := by
  have F : Fr (fun k => k = w.heap.size) W (W.setCell ⟨w.heap.size, 3, none⟩ u) := (Fr.refl (fun k => k = w.heap.size) W).setEq rfl _
  exact ⟨h.b0.set 3 _, F.blk (fun e => by omega) h.b1, h.k1.fr2 F (fun g hg e => h.k1.ne h.b0 (by decide) g hg e), h.k2.fr2 F (fun g hg e => h.k2.ne h.b0 (by decide) g hg e), k.fr2 F (fun g hg e => k.ne h.b0 (by decide) g hg e), below_fr h.hb F (Nat.le_refl _) (fun i hi => by omega)⟩
theorem TwS.put0 (h : TwS w W c v1 v2 v3 i o m) (c' : Int) : TwS w (W.setCell ⟨w.heap.size, 0, none⟩ (.int .i64 c')) c' v1 v2 v3 i o m := by
  have F : Fr (fun k => k = w.heap.size) W (W.setCell ⟨w.heap.size, 0, none⟩ (.int .i64 c')) := (Fr.refl (fun k => k = w.heap.size) W).setEq rfl _
  exact ⟨h.b0.set 0 _, F.blk (fun e => by omega) h.b1, h.k1.fr2 F (fun g hg e => h.k1.ne h.b0 (by decide) g hg e), h.k2.fr2 F (fun g hg e => h.k2.ne h.b0 (by decide) g hg e), h.k3.fr2 F (fun g hg e => h.k3.ne h.b0 (by decide) g hg e), below_fr h.hb F (Nat.le_refl _) (fun i hi => by omega)⟩
theorem TwS.side1 (h : TwS w W c v1 v2 v3 i o m) {a : Nat} {u v : Value} {L : List Int} (k : KL W v L) : KL (W.setCell ⟨w.heap.size, a, none⟩ u) v L := k.fr2 ((Fr.refl (fun k => k = w.heap.size) W).setEq rfl _) (fun g hg e => k.ne h.b0 (by decide) g hg e)
/-- What is given back. -/
structure TwO (w R : World) (c : Int) (v1 v2 v3 : Value) (i o m : List Int) : Prop where
  b1 : Blk R (w.heap.size + 1) (twC c v1 v2 v3) 66
  k1 : KL R v1 i
  k2 : KL R v2 o
  k3 : KL R v3 m
  hb : Below w.heap.size w R
theorem TwO.cells (h : TwO w W c v1 v2 v3 i o m) : W.cell? ⟨w.heap.size + 1, 0, none⟩ = some (.int .i64 c) ∧ W.cell? ⟨w.heap.size + 1, 1, none⟩ = some v1 ∧ W.cell? ⟨w.heap.size + 1, 2, none⟩ = some v2 ∧ W.cell? ⟨w.heap.size + 1, 3, none⟩ = some v3 := ⟨h.b1.cell 0, h.b1.cell 1, h.b1.cell 2, h.b1.cell 3⟩
theorem TwS.give (h : TwS w W c v1 v2 v3 i o m) : TwO w (Go.Proofs.Ytlakojncjldpbaa.set4 W (w.heap.size + 1) c v1 v2 v3) c v1 v2 v3 i o m := by
  have F := Fr.set4 W (w.heap.size + 1) c v1 v2 v3
  exact ⟨(((h.b1.set 0 _).set 1 _).set 2 _).set 3 _, h.k1.fr2 F (fun g hg e => h.k1.ne h.b1 (by decide) g hg e), h.k2.fr2 F (fun g hg e => h.k2.ne h.b1 (by decide) g hg e), h.k3.fr2 F (fun g hg e => h.k3.ne h.b1 (by decide) g hg e), below_fr h.hb F (Nat.le_refl _) (fun i hi => by omega)⟩
theorem TwS.give_side (h : TwS w W c v1 v2 v3 i o m) {v : Value} {L : List Int} (k : KL W v L) {c' : Int} {u1 u2 u3 : Value} : KL (Go.Proofs.Ytlakojncjldpbaa.set4 W (w.heap.size + 1) c' u1 u2 u3) v L := k.fr2 (Fr.set4 W (w.heap.size + 1) c' u1 u2 u3) (fun g hg e => k.ne h.b1 (by decide) g hg e)
end
theorem twcopied_f (c : Int) (v1 v2 v3 : Value) (i o m : List Int) (w : World) (hi : i.length < 50000) (ho : o.length < 50000) (hm : m.length < 50000) (h1 : KL w v1 i) (h2 : KL w v2 o) (h3 : KL w v3 m) :
    Calls Try.prog 160 #[twV c v1 v2 v3] w fun e w' => ∃ a1 n1 p1 a2 n2 p2 a3 n3 p3, e = .returned (twV c (.slice a1 n1 p1) (.slice a2 n2 p2) (.slice a3 n3 p3)) ∧ KL w' (.slice a1 n1 p1) i ∧ KL w' (.slice a2 n2 p2) o ∧ KL w' (.slice a3 n3 p3) m ∧ Below w.heap.size w w' :=
  (twcopied_any c v1 v2 v3 i o m w hi ho hm h1 h2 h3).mono fun e w' ⟨u1, u2, u3, e1, k1, k2, k3, hb⟩ => by
    obtain ⟨a1, p1, rfl⟩ := k1.form
    obtain ⟨a2, p2, rfl⟩ := k2.form
    obtain ⟨a3, p3, rfl⟩ := k3.form
    exact ⟨a1, _, p1, a2, _, p2, a3, _, p3, e1, k1, k2, k3, hb⟩
set_option maxHeartbeats 3200000 in
theorem twhas_any (c : Int) (a1 a2 a3 : Option Addr) (n1 n2 n3 p1 p2 p3 : Nat) (i m : List Int) (k : Int) (w : World) (h1 : KL w (.slice a1 n1 p1) i) (h3 : KL w (.slice a3 n3 p3) m) :
    Calls Try.prog 104 #[twV c (.slice a1 n1 p1) (.slice a2 n2 p2) (.slice a3 n3 p3), .int .u64 k] w fun e w' => e = .returned (.bool (decide (k ∈ i ++ m))) ∧ Below w.heap.size w w' := by
  obtain ⟨W, hW⟩ : ∃ W, W = w.alloc (.cells #[.int .i64 c, .slice a1 n1 p1, .slice a2 n2 p2, .slice a3 n3 p3] 66) := ⟨_, rfl⟩
  have B0 : Below w.heap.size w W := by rw [hW]; exact (Below.refl _ _).alloc (Nat.le_refl _) _
  have b0 : Blk W w.heap.size (twC c (.slice a1 n1 p1) (.slice a2 n2 p2) (.slice a3 n3 p3)) 66 := by rw [hW]; exact Blk.new0 w (twC c (.slice a1 n1 p1) (.slice a2 n2 p2) (.slice a3 n3 p3)) 66
  have H1 := Go.Lib.hid (sqhas_any _ i k W (h1.keep B0))
  have H3 := Go.Lib.hid (sqhas_any _ m k W (h3.keep B0))
  have c0 := b0.cell 0
  have c1 := b0.cell 1
  have c2 := b0.cell 2
  have c3 := b0.cell 3
  simp only [List.getElem?_cons_zero, List.getElem?_cons_succ] at c0 c1 c2 c3
  have l0 := b0.lt
  have HW := Go.Lib.hid hW
  have HB := Go.Lib.hid B0
  clear hW B0 b0 h1 h3
  have HD : Hid (decide (k ∈ i ++ m) = (decide (k ∈ i) || decide (k ∈ m))) := Go.Lib.hid (by simp [List.mem_append])
  rw [HD.out]
  generalize decide (k ∈ i) = x1 at *
  generalize decide (k ∈ m) = x3 at *
  clear HD
  cases x1
  · go_enter Try.func104, Try.ntmps104
    go_wp2_with fail
    rw [← HW.out]
    refine H1.out.mono ?_
    rintro e w1 ⟨rfl, rfl⟩
    go_wp2_with fail
    refine H3.out.mono ?_
    rintro e w2 ⟨rfl, rfl⟩
    go_wp2_with fail
    go_ret
    exact ⟨rfl, HB.out⟩
  · go_enter Try.func104, Try.ntmps104
    go_wp2_with fail
    rw [← HW.out]
    refine H1.out.mono ?_
    rintro e w1 ⟨rfl, rfl⟩
    go_wp2_with fail
    go_ret
    exact ⟨rfl, HB.out⟩
end Go.Proofs.Ytlakojncjldpbaa
