/- The lists' adaptive replacement: a state in hand. -/
import Derived.Test.YtlakojncjldpbaaGreatLq5
import Derived.Test.YtlakojncjldpbaaGreatTa
import Derived.Test.YtlakojncjldpbaaGreatGApp
import Derived.Deep.RegionHeld3
import Derived.Deep.RegionWith
namespace Go.Proofs.YtlakojncjldpbaaGreat
open Go.RowKit Hop
set_option linter.unusedVariables false
set_option linter.unusedSimpArgs false
set_option maxRecDepth 100000
theorem KL.fr2 {own : Nat → Prop} {w w' : World} {v : Value} {L : List Int} (h : KL w v L) (f : Fr own w w') (ho : ∀ b, v.ownBlock = some b → ¬ own b) : KL w' v L := Row.frame h f ho
abbrev arV (c p : Int) (v1 v2 v3 v4 : Value) : Value := .agg #[.int .i64 c, .int .i64 p, v1, v2, v3, v4]
abbrev arC (c p : Int) (v1 v2 v3 v4 : Value) : List Value := [.int .i64 c, .int .i64 p, v1, v2, v3, v4]
theorem formedA {P : Program} {f : Nat} {args : Array Value} {w : World} {R : List Int} (h : Calls P f args w fun e w' => ∃ v', e = .returned v' ∧ LNew w w' v' R) :
    Calls P f args w fun e w' => ∃ a1 n1 cap1, e = .returned (.slice a1 n1 cap1) ∧ KL w' (.slice a1 n1 cap1) R ∧ (∀ b, (Value.slice a1 n1 cap1).ownBlock = some b → w.heap.size ≤ b) ∧ Below w.heap.size w w' :=
  h.mono fun e w' ⟨v', h1, h2, h3, h4⟩ => by
    obtain ⟨a, cap, rfl⟩ := h2.form
    exact ⟨a, _, cap, h1, h2, h3, h4⟩
/-- A function's state, in its first own block; its second is the result's. -/
structure ArS (w W : World) (c p : Int) (v1 v2 v3 v4 : Value) (t u b d : List Int) : Prop where
  b0 : Blk W w.heap.size (arC c p v1 v2 v3 v4) 55
  b1 : Blk W (w.heap.size + 1) (arC 0 0 (.slice none 0 0) (.slice none 0 0) (.slice none 0 0) (.slice none 0 0)) 55
  k1 : KL W v1 t
  k2 : KL W v2 u
  k3 : KL W v3 b
  k4 : KL W v4 d
  hb : Below w.heap.size w W
/-- What is given back. -/
structure ArO (w R : World) (c p : Int) (v1 v2 v3 v4 : Value) (t u b d : List Int) : Prop where
  b1 : Blk R (w.heap.size + 1) (arC c p v1 v2 v3 v4) 55
  k1 : KL R v1 t
  k2 : KL R v2 u
  k3 : KL R v3 b
  k4 : KL R v4 d
  hb : Below w.heap.size w R
/-- A world with six cells of a block set. -/
abbrev set6 (W : World) (B : Nat) (c p : Int) (u1 u2 u3 u4 : Value) : World := (((((W.setCell ⟨B, 0, none⟩ (.int .i64 c)).setCell ⟨B, 1, none⟩ (.int .i64 p)).setCell ⟨B, 2, none⟩ u1).setCell ⟨B, 3, none⟩ u2).setCell ⟨B, 4, none⟩ u3).setCell ⟨B, 5, none⟩ u4
theorem Fr.set6 (W : World) (B : Nat) (c p : Int) (u1 u2 u3 u4 : Value) : Fr (fun k => k = B) W (set6 W B c p u1 u2 u3 u4) := ((((((Fr.refl (fun k => k = B) W).setEq rfl _).setEq rfl _).setEq rfl _).setEq rfl _).setEq rfl _).setEq rfl _
section
variable {w W : World} {c p : Int} {v1 v2 v3 v4 : Value} {t u b d : List Int}
theorem ArS.start (h1 : KL w v1 t) (h2 : KL w v2 u) (h3 : KL w v3 b) (h4 : KL w v4 d) : ArS w ((w.alloc (.cells #[.int .i64 c, .int .i64 p, v1, v2, v3, v4] 55)).alloc (.cells #[.int .i64 0, .int .i64 0, .slice none 0 0, .slice none 0 0, .slice none 0 0, .slice none 0 0] 55)) c p v1 v2 v3 v4 t u b d := by
  have B0 : Below w.heap.size w ((w.alloc (.cells #[.int .i64 c, .int .i64 p, v1, v2, v3, v4] 55)).alloc (.cells #[.int .i64 0, .int .i64 0, .slice none 0 0, .slice none 0 0, .slice none 0 0, .slice none 0 0] 55)) := ((Below.refl _ _).alloc (Nat.le_refl _) _).alloc (by simp) _
  have q := Blk.new0 (w.alloc (.cells #[.int .i64 c, .int .i64 p, v1, v2, v3, v4] 55)) (arC 0 0 (.slice none 0 0) (.slice none 0 0) (.slice none 0 0) (.slice none 0 0)) 55
  rw [World.size_alloc] at q
  exact ⟨(Blk.new0 w (arC c p v1 v2 v3 v4) 55).alloc _, q, h1.keep B0, h2.keep B0, h3.keep B0, h4.keep B0, B0⟩
theorem ArS.keep (h : ArS w W c p v1 v2 v3 v4 t u b d) {W' : World} (hb : Below W.heap.size W W') : ArS w W' c p v1 v2 v3 v4 t u b d := ⟨h.b0.keep hb, h.b1.keep hb, h.k1.keep hb, h.k2.keep hb, h.k3.keep hb, h.k4.keep hb, h.hb.trans (hb.mono h.hb.size)⟩
theorem ArS.cells (h : ArS w W c p v1 v2 v3 v4 t u b d) : W.cell? ⟨w.heap.size, 0, none⟩ = some (.int .i64 c) ∧ W.cell? ⟨w.heap.size, 1, none⟩ = some (.int .i64 p) ∧ W.cell? ⟨w.heap.size, 2, none⟩ = some v1 ∧ W.cell? ⟨w.heap.size, 3, none⟩ = some v2 ∧ W.cell? ⟨w.heap.size, 4, none⟩ = some v3 ∧ W.cell? ⟨w.heap.size, 5, none⟩ = some v4 := ⟨h.b0.cell 0, h.b0.cell 1, h.b0.cell 2, h.b0.cell 3, h.b0.cell 4, h.b0.cell 5⟩
theorem ArS.zeros (h : ArS w W c p v1 v2 v3 v4 t u b d) : W.cell? ⟨w.heap.size + 1, 0, none⟩ = some (.int .i64 0) ∧ W.cell? ⟨w.heap.size + 1, 1, none⟩ = some (.int .i64 0) ∧ W.cell? ⟨w.heap.size + 1, 2, none⟩ = some (.slice none 0 0) ∧ W.cell? ⟨w.heap.size + 1, 3, none⟩ = some (.slice none 0 0) ∧ W.cell? ⟨w.heap.size + 1, 4, none⟩ = some (.slice none 0 0) ∧ W.cell? ⟨w.heap.size + 1, 5, none⟩ = some (.slice none 0 0) := ⟨h.b1.cell 0, h.b1.cell 1, h.b1.cell 2, h.b1.cell 3, h.b1.cell 4, h.b1.cell 5⟩
theorem ArO.cells (h : ArO w W c p v1 v2 v3 v4 t u b d) : W.cell? ⟨w.heap.size + 1, 0, none⟩ = some (.int .i64 c) ∧ W.cell? ⟨w.heap.size + 1, 1, none⟩ = some (.int .i64 p) ∧ W.cell? ⟨w.heap.size + 1, 2, none⟩ = some v1 ∧ W.cell? ⟨w.heap.size + 1, 3, none⟩ = some v2 ∧ W.cell? ⟨w.heap.size + 1, 4, none⟩ = some v3 ∧ W.cell? ⟨w.heap.size + 1, 5, none⟩ = some v4 := ⟨h.b1.cell 0, h.b1.cell 1, h.b1.cell 2, h.b1.cell 3, h.b1.cell 4, h.b1.cell 5⟩
theorem ArS.put6 (h : ArS w W c p v1 v2 v3 v4 t u b d) (c' p' : Int) {u1 u2 u3 u4 : Value} {t' u' b' d' : List Int} (k1 : KL W u1 t') (k2 : KL W u2 u') (k3 : KL W u3 b') (k4 : KL W u4 d') : ArS w (Go.Proofs.YtlakojncjldpbaaGreat.set6 W w.heap.size c' p' u1 u2 u3 u4) c' p' u1 u2 u3 u4 t' u' b' d' := by
  have F := Fr.set6 W w.heap.size c' p' u1 u2 u3 u4
  exact ⟨(((((h.b0.set 0 _).set 1 _).set 2 _).set 3 _).set 4 _).set 5 _, F.blk (fun e => by omega) h.b1, k1.fr2 F (fun g hg e => k1.ne h.b0 (by decide) g hg e), k2.fr2 F (fun g hg e => k2.ne h.b0 (by decide) g hg e), k3.fr2 F (fun g hg e => k3.ne h.b0 (by decide) g hg e), k4.fr2 F (fun g hg e => k4.ne h.b0 (by decide) g hg e), below_fr h.hb F (Nat.le_refl _) (fun i hi => by omega)⟩
theorem ArS.side (h : ArS w W c p v1 v2 v3 v4 t u b d) {c' p' : Int} {u1 u2 u3 u4 v : Value} {L : List Int} (k : KL W v L) : KL (Go.Proofs.YtlakojncjldpbaaGreat.set6 W w.heap.size c' p' u1 u2 u3 u4) v L := k.fr2 (Fr.set6 W w.heap.size c' p' u1 u2 u3 u4) (fun g hg e => k.ne h.b0 (by decide) g hg e)
theorem ArS.put0 (h : ArS w W c p v1 v2 v3 v4 t u b d) (c' : Int) : ArS w (W.setCell ⟨w.heap.size, 0, none⟩ (.int .i64 c')) c' p v1 v2 v3 v4 t u b d := by
  have F : Fr (fun k => k = w.heap.size) W (W.setCell ⟨w.heap.size, 0, none⟩ (.int .i64 c')) := (Fr.refl (fun k => k = w.heap.size) W).setEq rfl _
  exact ⟨h.b0.set 0 _, F.blk (fun e => by omega) h.b1, h.k1.fr2 F (fun g hg e => h.k1.ne h.b0 (by decide) g hg e), h.k2.fr2 F (fun g hg e => h.k2.ne h.b0 (by decide) g hg e), h.k3.fr2 F (fun g hg e => h.k3.ne h.b0 (by decide) g hg e), h.k4.fr2 F (fun g hg e => h.k4.ne h.b0 (by decide) g hg e), below_fr h.hb F (Nat.le_refl _) (fun i hi => by omega)⟩
theorem ArS.put1 (h : ArS w W c p v1 v2 v3 v4 t u b d) (p' : Int) : ArS w (W.setCell ⟨w.heap.size, 1, none⟩ (.int .i64 p')) c p' v1 v2 v3 v4 t u b d := by
  have F : Fr (fun k => k = w.heap.size) W (W.setCell ⟨w.heap.size, 1, none⟩ (.int .i64 p')) := (Fr.refl (fun k => k = w.heap.size) W).setEq rfl _
  exact ⟨h.b0.set 1 _, F.blk (fun e => by omega) h.b1, h.k1.fr2 F (fun g hg e => h.k1.ne h.b0 (by decide) g hg e), h.k2.fr2 F (fun g hg e => h.k2.ne h.b0 (by decide) g hg e), h.k3.fr2 F (fun g hg e => h.k3.ne h.b0 (by decide) g hg e), h.k4.fr2 F (fun g hg e => h.k4.ne h.b0 (by decide) g hg e), below_fr h.hb F (Nat.le_refl _) (fun i hi => by omega)⟩
theorem ArS.put2 (h : ArS w W c p v1 v2 v3 v4 t u b d) {x : Value} {L : List Int} (k : KL W x L) : ArS w (W.setCell ⟨w.heap.size, 2, none⟩ x) c p x v2 v3 v4 L u b d := by
  have F : Fr (fun k => k = w.heap.size) W (W.setCell ⟨w.heap.size, 2, none⟩ x) := (Fr.refl (fun k => k = w.heap.size) W).setEq rfl _
  exact ⟨h.b0.set 2 _, F.blk (fun e => by omega) h.b1, k.fr2 F (fun g hg e => k.ne h.b0 (by decide) g hg e), h.k2.fr2 F (fun g hg e => h.k2.ne h.b0 (by decide) g hg e), h.k3.fr2 F (fun g hg e => h.k3.ne h.b0 (by decide) g hg e), h.k4.fr2 F (fun g hg e => h.k4.ne h.b0 (by decide) g hg e), below_fr h.hb F (Nat.le_refl _) (fun i hi => by omega)⟩
theorem ArS.put3 (h : ArS w W c p v1 v2 v3 v4 t u b d) {x : Value} {L : List Int} (k : KL W x L) : ArS w (W.setCell ⟨w.heap.size, 3, none⟩ x) c p v1 x v3 v4 t L b d := by
  have F : Fr (fun k => k = w.heap.size) W (W.setCell ⟨w.heap.size, 3, none⟩ x) := (Fr.refl (fun k => k = w.heap.size) W).setEq rfl _
  exact ⟨h.b0.set 3 _, F.blk (fun e => by omega) h.b1, h.k1.fr2 F (fun g hg e => h.k1.ne h.b0 (by decide) g hg e), k.fr2 F (fun g hg e => k.ne h.b0 (by decide) g hg e), h.k3.fr2 F (fun g hg e => h.k3.ne h.b0 (by decide) g hg e), h.k4.fr2 F (fun g hg e => h.k4.ne h.b0 (by decide) g hg e), below_fr h.hb F (Nat.le_refl _) (fun i hi => by omega)⟩
theorem ArS.put4 (h : ArS w W c p v1 v2 v3 v4 t u b d) {x : Value} {L : List Int} (k : KL W x L) : ArS w (W.setCell ⟨w.heap.size, 4, none⟩ x) c p v1 v2 x v4 t u L d := by
  have F : Fr (fun k => k = w.heap.size) W (W.setCell ⟨w.heap.size, 4, none⟩ x) := (Fr.refl (fun k => k = w.heap.size) W).setEq rfl _
  exact ⟨h.b0.set 4 _, F.blk (fun e => by omega) h.b1, h.k1.fr2 F (fun g hg e => h.k1.ne h.b0 (by decide) g hg e), h.k2.fr2 F (fun g hg e => h.k2.ne h.b0 (by decide) g hg e), k.fr2 F (fun g hg e => k.ne h.b0 (by decide) g hg e), h.k4.fr2 F (fun g hg e => h.k4.ne h.b0 (by decide) g hg e), below_fr h.hb F (Nat.le_refl _) (fun i hi => by omega)⟩
theorem ArS.put5 (h : ArS w W c p v1 v2 v3 v4 t u b d) {x : Value} {L : List Int} (k : KL W x L) : ArS w (W.setCell ⟨w.heap.size, 5, none⟩ x) c p v1 v2 v3 x t u b L := by
  have F : Fr (fun k => k = w.heap.size) W (W.setCell ⟨w.heap.size, 5, none⟩ x) := (Fr.refl (fun k => k = w.heap.size) W).setEq rfl _
  exact ⟨h.b0.set 5 _, F.blk (fun e => by omega) h.b1, h.k1.fr2 F (fun g hg e => h.k1.ne h.b0 (by decide) g hg e), h.k2.fr2 F (fun g hg e => h.k2.ne h.b0 (by decide) g hg e), h.k3.fr2 F (fun g hg e => h.k3.ne h.b0 (by decide) g hg e), k.fr2 F (fun g hg e => k.ne h.b0 (by decide) g hg e), below_fr h.hb F (Nat.le_refl _) (fun i hi => by omega)⟩
theorem ArS.side1 (h : ArS w W c p v1 v2 v3 v4 t u b d) {a : Nat} {x v : Value} {L : List Int} (k : KL W v L) : KL (W.setCell ⟨w.heap.size, a, none⟩ x) v L := k.fr2 ((Fr.refl (fun k => k = w.heap.size) W).setEq rfl _) (fun g hg e => k.ne h.b0 (by decide) g hg e)
theorem ArS.give2 (h : ArS w W c p v1 v2 v3 v4 t u b d) (c' p' : Int) {u1 u2 u3 u4 : Value} {t' u' b' d' : List Int} (k1 : KL W u1 t') (k2 : KL W u2 u') (k3 : KL W u3 b') (k4 : KL W u4 d') : ArO w (Go.Proofs.YtlakojncjldpbaaGreat.set6 W (w.heap.size + 1) c' p' u1 u2 u3 u4) c' p' u1 u2 u3 u4 t' u' b' d' := by
  have F := Fr.set6 W (w.heap.size + 1) c' p' u1 u2 u3 u4
  exact ⟨(((((h.b1.set 0 _).set 1 _).set 2 _).set 3 _).set 4 _).set 5 _, k1.fr2 F (fun g hg e => k1.ne h.b1 (by decide) g hg e), k2.fr2 F (fun g hg e => k2.ne h.b1 (by decide) g hg e), k3.fr2 F (fun g hg e => k3.ne h.b1 (by decide) g hg e), k4.fr2 F (fun g hg e => k4.ne h.b1 (by decide) g hg e), below_fr h.hb F (Nat.le_refl _) (fun i hi => by omega)⟩
theorem ArS.give (h : ArS w W c p v1 v2 v3 v4 t u b d) : ArO w (Go.Proofs.YtlakojncjldpbaaGreat.set6 W (w.heap.size + 1) c p v1 v2 v3 v4) c p v1 v2 v3 v4 t u b d := h.give2 c p h.k1 h.k2 h.k3 h.k4
theorem ArO.keep (h : ArO w W c p v1 v2 v3 v4 t u b d) {W' : World} (hb : Below W.heap.size W W') : ArO w W' c p v1 v2 v3 v4 t u b d := ⟨h.b1.keep hb, h.k1.keep hb, h.k2.keep hb, h.k3.keep hb, h.k4.keep hb, h.hb.trans (hb.mono h.hb.size)⟩
theorem ArS.give_side (h : ArS w W c p v1 v2 v3 v4 t u b d) {v : Value} {L : List Int} (k : KL W v L) {c' p' : Int} {u1 u2 u3 u4 : Value} : KL (Go.Proofs.YtlakojncjldpbaaGreat.set6 W (w.heap.size + 1) c' p' u1 u2 u3 u4) v L := k.fr2 (Fr.set6 W (w.heap.size + 1) c' p' u1 u2 u3 u4) (fun g hg e => k.ne h.b1 (by decide) g hg e)
end
theorem front_a (v : Value) (L : List Int) (k : Int) (w : World) (hsm : L.length < 100000) (h : KL w v L) :
    Calls Tryz.prog 65 #[v, .int .u64 k] w fun e w' => ∃ a1 n1 cap1, e = .returned (.slice a1 n1 cap1) ∧ KL w' (.slice a1 n1 cap1) (k :: wo L k) ∧ (∀ b, (Value.slice a1 n1 cap1).ownBlock = some b → w.heap.size ≤ b) ∧ Below w.heap.size w w' := formedA (sqfront_any v L k w hsm h)
theorem wo_a (v : Value) (L : List Int) (k : Int) (w : World) (hsm : L.length < 100000) (h : KL w v L) :
    Calls Tryz.prog 64 #[v, .int .u64 k] w fun e w' => ∃ a1 n1 cap1, e = .returned (.slice a1 n1 cap1) ∧ KL w' (.slice a1 n1 cap1) (wo L k) ∧ (∀ b, (Value.slice a1 n1 cap1).ownBlock = some b → w.heap.size ≤ b) ∧ Below w.heap.size w w' := formedA (sqwo_any v L k w hsm h)
theorem clone_a (v : Value) (L : List Int) (w : World) (hsm : L.length < 100000) (h : KL w v L) :
    Calls Tryz.prog 118 #[v] w fun e w' => ∃ a1 n1 cap1, e = .returned (.slice a1 n1 cap1) ∧ KL w' (.slice a1 n1 cap1) L ∧ (∀ b, (Value.slice a1 n1 cap1).ownBlock = some b → w.heap.size ≤ b) ∧ Below w.heap.size w w' := formedA (slclone_any v L w hsm h)
/-- seq.Back, also of none. -/
theorem back_a (v : Value) (L : List Int) (w : World) (hsm : L.length < 100000) (h : KL w v L) :
    Calls Tryz.prog 122 #[v] w fun e w' => ∃ a1 n1 cap1 q, e = .returned (.tuple #[.int .u64 (L.getLastD 0), .slice a1 n1 cap1, .bool q]) ∧ KL w' (.slice a1 n1 cap1) L.dropLast ∧ (∀ b, (Value.slice a1 n1 cap1).ownBlock = some b → w.heap.size ≤ b) ∧ Below w.heap.size w w' := by
  rcases List.eq_nil_or_concat L with rfl | ⟨A, x, rfl⟩
  · refine (sqback_nil v w h).mono ?_
    rintro e w' ⟨rfl, rfl⟩
    exact ⟨none, 0, 0, false, rfl, KL.nil _, fun b hb => (by cases hb), Below.refl _ _⟩
  · rw [List.concat_eq_append] at h ⊢
    refine (sqback_any v A x w (by simp at hsm; omega) h).mono ?_
    rintro e w' ⟨v', rfl, hk, ho, hb⟩
    obtain ⟨a, cap, rfl⟩ := hk.form
    exact ⟨a, _, cap, true, by simp, by simpa using hk, ho, hb⟩
set_option maxHeartbeats 800000 in
theorem arcut_any (v : Value) (L : List Int) (w : World) (hsm : L.length < 100000) (h : KL w v L) :
    Calls Tryz.prog 70 #[v] w fun e w' => ∃ a1 n1 cap1, e = .returned (.slice a1 n1 cap1) ∧ KL w' (.slice a1 n1 cap1) L.dropLast ∧ (∀ b, (Value.slice a1 n1 cap1).ownBlock = some b → w.heap.size ≤ b) ∧ Below w.heap.size w w' := by
  have HB := Go.Lib.hid (back_a v L w hsm h)
  clear h
  go_enter Tryz.func70, Tryz.ntmps70
  go_wp2_with fail
  refine HB.out.mono ?_
  rintro e w1 ⟨a1, n1, q1, q, rfl, hk, ho, hb⟩
  have HN := Go.Lib.hid (⟨hk, ho, hb⟩ : _ ∧ _ ∧ _)
  clear hk ho hb
  go_wp2_with fail
  go_ret
  exact ⟨a1, n1, q1, rfl, HN.out⟩
/-- many: how many keys some lists have. -/
def sumN : List Nat → Nat
  | [] => 0
  | n :: l => n + sumN l
theorem sumN_take : ∀ (l : List Nat) (j : Nat) (n : Nat), l[j]? = some n → sumN (l.take (j + 1)) = sumN (l.take j) + n
  | [], j, n, h => by simp at h
  | x :: l, 0, n, h => by simp at h; subst h; simp [sumN]
  | x :: l, j + 1, n, h => by
    have := sumN_take l j n (by simpa using h)
    simp only [List.take_succ_cons, sumN]
    omega
theorem sumN_le : ∀ (l : List Nat) (j : Nat), sumN (l.take j) ≤ sumN l
  | [], j => by simp [sumN]
  | x :: l, 0 => by simp [sumN]
  | x :: l, j + 1 => by
    have := sumN_le l j
    simp only [List.take_succ_cons, sumN]
    omega
set_option maxHeartbeats 1600000 in
theorem armany_any (B : Nat) (vs : List Value) (ns : List Nat) (w : World) (hl : vs.length = ns.length) (hs : ∀ (j : Nat) v, vs[j]? = some v → ∃ a n cap, v = .slice a n cap ∧ ns[j]? = some n) (hsm : sumN ns < 1000000) (hlen : vs.length < 1000) (hb : Blk w B vs 27) :
    Calls Tryz.prog 68 #[.slice (some ⟨B, 0, none⟩) vs.length vs.length] w fun e w' => e = .returned (.int .i64 (sumN ns)) ∧ w = w' := by
  have HB := Go.Lib.hid hb
  have HSV := Go.Lib.hid hs
  have HSM := Go.Lib.hid hsm
  have HL := Go.Lib.hid hl
  clear hb hs hsm hl
  go_enter Tryz.func68, Tryz.ntmps68
  go_wp2_with fail
  go_loopw [3, 8] (fun n i wr => ∃ j : Nat, j ≤ vs.length ∧ i = .int .i64 j ∧ n = .int .i64 (sumN (ns.take j)) ∧ w = wr) (fun n i _ => vs.length - (intOf i).toNat)
  case atStart => exact ⟨0, Nat.zero_le _, rfl, rfl, rfl⟩
  case round =>
    obtain ⟨j, hj, rfl, rfl, rfl⟩ := hrel
    by_cases hlt : j < vs.length
    · obtain ⟨v, hv⟩ : ∃ v, vs[j]? = some v := ⟨vs[j], List.getElem?_eq_getElem hlt⟩
      obtain ⟨a, n, cap, rfl, hn⟩ := HSV.out j v hv
      have cj := HB.out.cell j
      rw [hv] at cj
      have lb := HB.out.lt
      have e1 := sumN_take ns j n hn
      have e2 := sumN_le ns (j + 1)
      have e3 : sumN (ns.take j) + n < 1000000 := by have := HSM.out; omega
      have HE := Go.Lib.hid e1
      have e4 : IntKind.i64.wrap ((sumN (ns.take j) : Int) + (n : Int)) = ((sumN (ns.take (j + 1)) : Nat) : Int) := by rw [e1, IntWalk.i64_in _ (by omega)]; omega
      have e5 : wrap64 ((sumN (ns.take j) : Int) + (n : Int)) = ((sumN (ns.take (j + 1)) : Nat) : Int) := by unfold wrap64; omega
      clear e1 e2 hv hn
      go_wp2_with fail
      go_roundw
      case rel => exact ⟨j + 1, by omega, by go_num, by simp⟩
      case measure => simp [intOf]; omega
    · have e : j = vs.length := by omega
      subst e
      have e1 : ns.take vs.length = ns := by rw [HL.out]; exact List.take_length
      rw [e1]
      go_wp2_with fail
      go_ret
      exact ⟨rfl, rfl⟩
end Go.Proofs.YtlakojncjldpbaaGreat
