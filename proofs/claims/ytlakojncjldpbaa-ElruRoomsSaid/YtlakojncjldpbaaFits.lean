/- Does a key fit into a hole? The closure of the table's Delete. -/
import Derived.Test.YtlakojncjldpbaaTPut
namespace Go.Proofs.Ytlakojncjldpbaa
open Go.RowKit Hop
set_option linter.unusedVariables false
set_option linter.unusedSimpArgs false
set_option maxRecDepth 100000
section
variable (pt bt : Nat) (t : List Ts) (many : Int)
set_option maxHeartbeats 3200000 in
theorem fits_any (b2 b6 b5 : Nat) (a hole : Int) (w : World) (hp : P2 t.length) (h0 : 0 ≤ a) (h1 : a < t.length) (h2 : 0 ≤ hole) (h3 : hole < t.length) (hk0 : 0 ≤ (tg t a).key) (hk1 : (tg t a).key < 18446744073709551616)
    (h : TRep w pt bt t many) (q2 : Blk w b2 [P0 pt] 157) (q6 : Blk w b6 [.int .i64 t.length] 3) (q5 : Blk w b5 [.int .i64 hole] 3) :
    Calls Try.prog 209 #[.int .i64 a, P0 b2, P0 b6, P0 b5] w fun e w' => e = .returned (.bool (decide (ap t.length hole a ≤ ap t.length (hmF (tg t a).key t.length) a))) ∧ Below w.heap.size w w' := by
  obtain ⟨n, rfl⟩ := Int.eq_ofNat_of_zero_le h0
  have hn : n < t.length := by omega
  have hb3 : t.length ≤ 1073741824 := by have := hp.pos; omega
  have d0 := tslot_cell h.bt hn (j := 0) (by omega)
  have c0 := h.ht.cell 0
  have c2 := q2.cell 0
  have c5 := q5.cell 0
  have c6 := q6.cell 0
  simp only [encT, List.getElem?_cons_zero, List.getElem?_cons_succ, Nat.add_zero] at d0 c0 c2 c5 c6
  have hh := hmF_lt hp (tg t n).key
  have HO : ∀ W, Calls Try.prog 210 #[.int .u64 (tg t n).key, .int .i64 t.length] W fun e w' => e = .returned (.int .i64 (hmF (tg t n).key t.length)) ∧ w' = W := fun W => (home_any (tg t n).key t.length W hk0 hk1 hp).mono (fun e w' h => ⟨h.1, h.2.symm⟩)
  have AP : ∀ (x : Int) (W : World), 0 ≤ x → x < t.length → Calls Try.prog 211 #[.int .i64 x, .int .i64 n, .int .i64 t.length] W fun e w' => e = .returned (.int .i64 (ap t.length x n)) ∧ w' = W := fun x W hx hy => (apart_any x n t.length W hx hy h0 h1 hp).mono (fun e w' h => ⟨h.1, h.2.symm⟩)
  obtain ⟨hh0, hh1⟩ := hh
  generalize hmF (tg t n).key t.length = hm at *
  generalize tg t n = x at *
  have HHO := Go.Lib.hid HO
  have HAP := Go.Lib.hid AP
  clear HO AP
  have l0 := h.ht.lt
  go_enter Try.func209, Try.ntmps209
  go_wp2_with fail
  go_quiet ((go_at_call 210; exact Calls.quiet_of_same (HHO.out _)))
  have k0 : (w.drewN nq).cell? ⟨b2, 0, none⟩ = some (P0 pt) := c2
  have k5 : (w.drewN nq).cell? ⟨b5, 0, none⟩ = some (.int .i64 hole) := c5
  have k6 : (w.drewN nq).cell? ⟨b6, 0, none⟩ = some (.int .i64 t.length) := c6
  have B1 : Below w.heap.size w (w.drewN nq) := below_drewN (Below.refl _ _) nq
  have HB1 := Go.Lib.hid B1
  clear B1
  go_wp2_with fail
  generalize w.drewN nq = W1 at *
  go_quiet ((go_at_call 211; exact Calls.quiet_of_same (HAP.out _ _ (by omega) (by omega))))
  go_wp2_with fail
  go_ret
  trace_state
  exact ⟨rfl, below_drewN HB1.out _⟩
end
end Go.Proofs.Ytlakojncjldpbaa
