/- The table's Get. -/
import Derived.Test.YtlakojncjldpbaaFind
namespace Go.Proofs.Ytlakojncjldpbaa
open Go.RowKit Hop
set_option linter.unusedVariables false
set_option linter.unusedSimpArgs false
set_option maxRecDepth 100000
theorem below_drewN {B : Nat} {w w' : World} (h : Below B w w') (n : Nat) : Below B w (w'.drewN n) := ⟨h.os, h.tape, h.output, h.size, h.block⟩
theorem fr_drewN {own : Nat → Prop} {w w' : World} (h : Fr own w w') (n : Nat) : Fr own w (w'.drewN n) := ⟨h.os, h.tape, h.output, h.size, h.block⟩
theorem blk_drewN {w : World} {b : Nat} {cs : List Value} {T : Nat} (h : Blk w b cs T) (n : Nat) : Blk (w.drewN n) b cs T := h.of_heap rfl
section
variable (pt bt : Nat) (t : List Ts) (many : Int)
set_option maxHeartbeats 1600000 in
theorem get_at (k r : Int) (w : World) (hk0 : 0 ≤ k) (hk1 : k < 18446744073709551616) (hp : P2 t.length) (h : TRep w pt bt t many) (he : ∃ e : Int, 0 ≤ e ∧ e < t.length ∧ (tg t e).full = false) (hF : Fnd hmF t k r) :
    Calls Try.prog 203 #[P0 pt, .int .u64 k] w fun e w' => e = .returned (.tuple #[.int .i32 (tg t r).num, .bool (tg t r).full]) ∧ Below w.heap.size w w' := by
  obtain ⟨m, rfl⟩ := Int.eq_ofNat_of_zero_le hF.lo
  have hm : m < t.length := by have := hF.hi; omega
  have hmi : (m : Int) < t.length := by omega
  have FA := fun w h => find_at pt bt t many k m w hk0 hk1 hp h he hF
  have hb3 : t.length ≤ 1073741824 := by have := hp.pos; omega
  have cells : ∀ w, TRep w pt bt t many → w.cell? ⟨pt, 0, none⟩ = some (S0 bt t.length) ∧ w.cell? ⟨bt, m * 3, none⟩ = some (.int .u64 (tg t m).key) ∧ w.cell? ⟨bt, m * 3 + 1, none⟩ = some (.int .i32 (tg t m).num) ∧ w.cell? ⟨bt, m * 3 + 2, none⟩ = some (.bool (tg t m).full) :=
    fun w h => ⟨h.ht.cell 0, tslot_cell h.bt hm (j := 0) (by omega), tslot_cell h.bt hm (j := 1) (by omega), tslot_cell h.bt hm (j := 2) (by omega)⟩
  generalize tg t m = x at *
  have l0 := h.ht.lt
  have l1 := h.bt.lt
  have S1 : ∀ W, TRep W pt bt t many → Below w.heap.size w W → W.cell? ⟨pt, 0, none⟩ = some (S0 bt t.length) ∧ W.cell? ⟨bt, m * 3, none⟩ = some (.int .u64 x.key) ∧ W.cell? ⟨bt, m * 3 + 1, none⟩ = some (.int .i32 x.num) ∧ W.cell? ⟨bt, m * 3 + 2, none⟩ = some (.bool x.full) ∧ TRep W pt bt t many ∧ Below w.heap.size w W :=
    fun W h hb => ⟨(cells W h).1, (cells W h).2.1, (cells W h).2.2.1, (cells W h).2.2.2, h, hb⟩
  have S2 := fun W o (hr : TRep W pt bt t many) (hb : Below w.heap.size w W) => S1 (W.alloc o) (hr.keep ((Below.refl _ _).alloc (Nat.le_refl _) o)) (hb.alloc hb.size o)
  have S3 := fun W o (hb : Below w.drew.heap.size w.drew W) => S1 (W.alloc o) (h.keep ((Below.drew (Below.refl _ w)).trans (hb.alloc hb.size o))) ((Below.drew (Below.refl _ w)).trans (hb.alloc hb.size o))
  have S4 := fun W a b c o (hb : Below (w.alloc o).drew.heap.size (w.alloc o).drew W) =>
    have q : Below w.heap.size w (((W.setCell ⟨w.heap.size, 0, none⟩ a).setCell ⟨w.heap.size, 1, none⟩ b).setCell ⟨w.heap.size, 2, none⟩ c) :=
      ((((((Below.refl _ w).alloc (Nat.le_refl _) o).drew.trans (hb.mono (by simp))).setCell (p := ⟨w.heap.size, 0, none⟩) (Nat.le_refl _) a).setCell (p := ⟨w.heap.size, 1, none⟩) (Nat.le_refl _) b).setCell (p := ⟨w.heap.size, 2, none⟩) (Nat.le_refl _) c)
    S1 _ (h.keep q) q
  have S5 := fun o => S1 (w.alloc o).drew (h.keep (((Below.refl _ w).alloc (Nat.le_refl _) o).drew)) (((Below.refl _ w).alloc (Nat.le_refl _) o).drew)
  have HS5 := Go.Lib.hid S5
  have HS1 := Go.Lib.hid S1
  have HS2 := Go.Lib.hid S2
  have HS3 := Go.Lib.hid S3
  have HS4 := Go.Lib.hid S4
  have HFA := Go.Lib.hid FA
  have hR : TRep w.drew pt bt t many := ⟨h.ht, h.bt⟩
  have hB : Below w.heap.size w w.drew := (Below.refl _ _).drew
  obtain ⟨g0, g1, g2, g3⟩ := cells w h
  clear cells FA hF he S1 S2 S3 S4 S5
  go_enter Try.func203, Try.ntmps203
  go_wp2_with fail
  go_region_held3 (fun W => W.cell? ⟨pt, 0, none⟩ = some (S0 bt t.length) ∧ W.cell? ⟨bt, m * 3, none⟩ = some (.int .u64 x.key) ∧ W.cell? ⟨bt, m * 3 + 1, none⟩ = some (.int .i32 x.num) ∧ W.cell? ⟨bt, m * 3 + 2, none⟩ = some (.bool x.full) ∧ TRep W pt bt t many ∧ Below w.heap.size w W)
    (first | with_reducible exact HS3.out _ _ hb1 | with_reducible exact HS5.out _ | with_reducible exact HS4.out _ _ _ _ _ hb1 | (go_split_ands; with_reducible exact HS2.out _ _ (by assumption) (by assumption)) | (go_split_ands; with_reducible exact HS1.out _ (TRep.keep (by assumption) hb1) (Below.trans (by assumption) (hb1.mono (Below.size (by assumption))))) | exact ⟨g0, g1, g2, g3, hR, hB⟩)
    (first | (go_at_call 208; refine (HFA.out _ (by first | with_reducible exact hR | exact h.keep (((Below.refl _ w).alloc (Nat.le_refl _) _).drew))).mono ?_; rintro e w1 ⟨rfl, hb1⟩; (try (have z := ((Blk.new0 w [.int .u64 0, .int .i32 0, .bool false] 213).drew).keep hb1; have z0 := z.cell 0; have z1 := z.cell 1; have z2 := z.cell 2; have y0 := z.frozen 0; have y1 := z.frozen 1; have y2 := z.frozen 2; simp only [List.getElem?_cons_zero, List.getElem?_cons_succ, World.size_drew] at z0 z1 z2 y0 y1 y2; have z9 := z.lt))))
  · have B9 := ((Below.drew (Below.refl _ w)).trans hb1)
    have Z9 := Go.Lib.hid B9
    have z9 := B9.size
    clear hb1 B9
    go_wp2_with fail
    go_quiet (fail)
    go_wp2_with fail
    go_ret2
    exact ⟨rfl, below_drewN (Z9.out.alloc z9 _) nq⟩
  · have B9 := (((((Below.refl _ w).alloc (Nat.le_refl _) _).drew.trans (hb1.mono (by simp))).setCell (p := ⟨w.heap.size, 0, none⟩) (Nat.le_refl _) (.int .u64 x.key)).setCell (p := ⟨w.heap.size, 1, none⟩) (Nat.le_refl _) (.int .i32 x.num)).setCell (p := ⟨w.heap.size, 2, none⟩) (Nat.le_refl _) (.bool x.full)
    have Z9 := Go.Lib.hid B9
    clear hb1 B9
    go_wp2_with fail
    go_quiet (fail)
    go_wp2_with fail
    go_ret2
    exact ⟨rfl, below_drewN Z9.out nq⟩
end
end Go.Proofs.Ytlakojncjldpbaa
