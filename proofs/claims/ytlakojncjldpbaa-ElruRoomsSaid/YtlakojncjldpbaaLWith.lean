/- A list's 'with': a slot's node changed by a closure. -/
import Derived.Test.YtlakojncjldpbaaAt
namespace Go.Proofs.Ytlakojncjldpbaa
open Go.RowKit Hop
set_option linter.unusedVariables false
set_option linter.unusedSimpArgs false
set_option maxRecDepth 100000
/-- What a closure does to a node that it is handed: it is turned by a function; nothing else. -/
def Turns (K : Nat) (cap : Array Value) (f : Nd → Nd) (w : World) : Prop :=
  ∀ (W : World) (b : Nat) (x : Nd), Below w.heap.size w W → w.heap.size ≤ b → Blk W b (encN x) 164 →
    Calls Try.prog K (#[P0 b] ++ cap) W fun e W' => e = .returned (.tuple #[]) ∧ Fr (· = b) W W' ∧ Blk W' b (encN (f x)) 164
set_option maxHeartbeats 400000 in
set_option maxRecDepth 100000 in
theorem with_yes (pl pa ba : Nat) (S : List Sl) (lv f nx li : Value) (i : Int) (w : World) (hn : S.length < 1000000) (ht : isT S i = true) (K : Nat) (cap : Array Value) (fn : Nd → Nd) (hK : ∀ (args : Array Value) (W : World), (callFunc K args).run Try.prog W = .ok (.enter K args) W) (hc : Turns K cap fn w)
    (hl : Blk w pl [P0 pa, lv] 192) (ha : Blk w pa [S0 ba S.length, f, nx, li] 189) (hb : Blk w ba (flat encS S) 201) :
    Calls Try.prog 206 #[P0 pl, .int .i32 i, .func (.func K) #[] cap] w fun e w' => e = .returned (.tuple #[]) ∧ Fr (· = ba) w w' ∧ Blk w' ba (flat encS (st S i ⟨fn (sg S i).nd, true⟩)) 201 := by
  have c0 := hl.cell 0
  have l0 := hl.lt
  have l1 := hb.lt
  have l2 := ha.lt
  simp only [List.getElem?_cons_zero] at c0
  have HT := Go.Lib.hid ht
  obtain ⟨h0, h1, h2⟩ := isT_lt ht
  have e : ndT S i = (sg S i).nd := by simp [ndT, ht]
  clear ht h2
  generalize (sg S i).nd = x at *
  obtain ⟨k, v, fl, tg, pv, nt⟩ := x
  have HE := Go.Lib.hid e
  clear e
  go_enter Try.func206, Try.ntmps206
  go_wp2_with fail
  refine (at_any pa ba S f nx li i _ (by omega) hn ha hb).mono ?_
  rw [HE.out]
  simp only [encN]
  rintro e w1 ⟨rfl, hb1⟩
  have HB1 := Go.Lib.hid hb1
  clear hb1
  go_wp2_with fail
  refine (hc _ _ ⟨k, v, fl, tg, pv, nt⟩ (HB1.out.alloc HB1.out.size _) HB1.out.size (Blk.new _ _ _)).mono ?_
  rintro e w2 ⟨rfl, hf2, hb2⟩
  have HF2 := Go.Lib.hid hf2
  have HB2 := Go.Lib.hid hb2
  clear hf2 hb2
  have z1 : w.heap.size ≤ w1.heap.size := HB1.out.size
  have g0 : w2.cell? ⟨pl, 0, none⟩ = some (P0 pa) := by
    have h1 := HF2.out.blk (x := pl) (by show ¬ pl = w1.heap.size; omega) ((hl.keep HB1.out).alloc _)
    have h2 := h1.cell 0
    simpa using h2
  have g1 := HB2.out.cell 0
  have g2 := HB2.out.cell 1
  have g3 := HB2.out.cell 2
  have g4 := HB2.out.cell 3
  have g5 := HB2.out.cell 4
  have g6 := HB2.out.cell 5
  simp only [encN, List.getElem?_cons_zero, List.getElem?_cons_succ] at g1 g2 g3 g4 g5 g6
  go_wp2_with fail
  go_still_tail 6, (by kernel_rfl)
  change wpList _ _ _ _ _ w2.drew
  have a2 : Blk w2.drew pa [S0 ba S.length, f, nx, li] 189 := HF2.out.blk (x := pa) (by show ¬ pa = w1.heap.size; omega) ((ha.keep HB1.out).alloc _)
  have b2 : Blk w2.drew ba (flat encS S) 201 := HF2.out.blk (x := ba) (by show ¬ ba = w1.heap.size; omega) ((hb.keep HB1.out).alloc _)
  clear g1 g2 g3 g4 g5 g6
  go_wp2_with fail
  refine (set_yes pa ba S f nx li i (fn ⟨k, v, fl, tg, pv, nt⟩) _ hn HT.out a2 b2).mono ?_
  rintro e w3 ⟨rfl, hf3, hb3⟩
  go_wp2_with fail
  go_end0
  refine ⟨rfl, ?_, hb3⟩
  have q : Fr (· = ba) w w2.drew := ((Fr.of_below HB1.out).alloc _).trans HF2.out.drew (fun k hk => .inr (by subst hk; exact HB1.out.size))
  exact q.trans hf3 (fun k hk => .inl hk)
end Go.Proofs.Ytlakojncjldpbaa
