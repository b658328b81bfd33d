/- The lists' reads: list, Tag, Front, Back, Len, After. -/
import Derived.Test.YtlakojncjldpbaaJoin
namespace Go.Proofs.Ytlakojncjldpbaa
open Go.RowKit Hop
set_option linter.unusedVariables false
set_option linter.unusedSimpArgs false
set_option maxRecDepth 100000
theorem node_tag (k v fl tg pv nt : Int) (w : World) : (Instr.field 164 (.agg #[.int .u64 k, .int .u64 v, .int .i64 fl, .int .i64 tg, .int .i32 pv, .int .i32 nt]) 3).run Try.prog w = .ok (.int .i64 tg) w := by kernel_rfl
theorem node_next (k v fl tg pv nt : Int) (w : World) : (Instr.field 164 (.agg #[.int .u64 k, .int .u64 v, .int .i64 fl, .int .i64 tg, .int .i32 pv, .int .i32 nt]) 5).run Try.prog w = .ok (.int .i32 nt) w := by kernel_rfl
theorem node_key (k v fl tg pv nt : Int) (w : World) : (Instr.field 164 (.agg #[.int .u64 k, .int .u64 v, .int .i64 fl, .int .i64 tg, .int .i32 pv, .int .i32 nt]) 0).run Try.prog w = .ok (.int .u64 k) w := by kernel_rfl
theorem node_val (k v fl tg pv nt : Int) (w : World) : (Instr.field 164 (.agg #[.int .u64 k, .int .u64 v, .int .i64 fl, .int .i64 tg, .int .i32 pv, .int .i32 nt]) 1).run Try.prog w = .ok (.int .u64 v) w := by kernel_rfl
theorem node_flag (k v fl tg pv nt : Int) (w : World) : (Instr.field 164 (.agg #[.int .u64 k, .int .u64 v, .int .i64 fl, .int .i64 tg, .int .i32 pv, .int .i32 nt]) 2).run Try.prog w = .ok (.int .i64 fl) w := by kernel_rfl
section
variable (pl pa bl ba : Nat) (S : List Sl) (ls : List Li) (f nx li : Value)
set_option maxHeartbeats 400000 in
theorem list_yes (t : Nat) (w : World) (hn : ls.length < 1000) (ht : t < ls.length) (h : LRep w pl pa bl ba S ls f nx li) :
    Calls Try.prog 204 #[P0 pl, .int .i64 t] w fun e w' => e = .returned (.pointer (some ⟨bl, t * 3, none⟩)) ∧ w = w' := by
  have c1 := h.hl.cell 1
  simp only [List.getElem?_cons_zero, List.getElem?_cons_succ] at c1
  go_enter Try.func204, Try.ntmps204
  go_wp2_with fail
  go_ret
  exact ⟨rfl, rfl⟩
set_option maxHeartbeats 400000 in
theorem list_no (t : Int) (w : World) (hn : ls.length < 1000) (ht : t < 0 ∨ ls.length ≤ t) (h : LRep w pl pa bl ba S ls f nx li) :
    Calls Try.prog 204 #[P0 pl, .int .i64 t] w fun e w' => e = .returned (.pointer none) ∧ w = w' := by
  have c1 := h.hl.cell 1
  simp only [List.getElem?_cons_zero, List.getElem?_cons_succ] at c1
  rcases ht with ht | ht
  · go_enter Try.func204, Try.ntmps204
    go_wp2_with fail
    go_ret
    exact ⟨rfl, rfl⟩
  · have h0 : 0 ≤ t := by omega
    go_enter Try.func204, Try.ntmps204
    go_wp2_with fail
    go_ret
    exact ⟨rfl, rfl⟩
set_option maxHeartbeats 400000 in
theorem tag_any (i : Int) (w : World) (hi : i ≤ 2147483647) (hn : S.length < 1000000) (h : LRep w pl pa bl ba S ls f nx li) (hb : 0 ≤ (ndT S i).tag ∧ (ndT S i).tag ≤ 100) :
    Calls Try.prog 174 #[P0 pl, .int .i32 i] w fun e w' => e = .returned (.int .i64 ((ndT S i).tag - 1)) ∧ Below w.heap.size w w' := by
  have c0 := h.hl.cell 0
  simp only [List.getElem?_cons_zero] at c0
  have nf := node_tag
  go_enter Try.func174, Try.ntmps174
  go_wp2_with fail
  refine (at_any pa ba S f nx li i _ hi hn h.ha h.ba).mono ?_
  simp only [encN]
  rintro e w1 ⟨rfl, hb1⟩
  go_wp2_with fail
  go_ret
  exact ⟨rfl, hb1⟩
set_option maxHeartbeats 400000 in
theorem front_yes (t : Nat) (w : World) (hn : ls.length < 1000) (ht : t < ls.length) (h : LRep w pl pa bl ba S ls f nx li) :
    Calls Try.prog 220 #[P0 pl, .int .i64 t] w fun e w' => e = .returned (.int .i32 (lg ls t).front) ∧ w = w' := by
  have c1 := list_cell h.bl ht (j := 0) (by omega)
  simp only [encL, List.getElem?_cons_zero, List.getElem?_cons_succ, Nat.add_zero] at c1
  go_enter Try.func220, Try.ntmps220
  go_wp2_with fail
  refine (list_yes pl pa bl ba S ls f nx li t _ hn ht h).mono ?_
  rintro e w1 ⟨rfl, rfl⟩
  go_wp2_with fail
  go_ret
  exact ⟨rfl, rfl⟩
set_option maxHeartbeats 400000 in
theorem back_yes (t : Nat) (w : World) (hn : ls.length < 1000) (ht : t < ls.length) (h : LRep w pl pa bl ba S ls f nx li) :
    Calls Try.prog 215 #[P0 pl, .int .i64 t] w fun e w' => e = .returned (.int .i32 (lg ls t).back) ∧ w = w' := by
  have c1 := list_cell h.bl ht (j := 1) (by omega)
  simp only [encL, List.getElem?_cons_zero, List.getElem?_cons_succ] at c1
  go_enter Try.func215, Try.ntmps215
  go_wp2_with fail
  refine (list_yes pl pa bl ba S ls f nx li t _ hn ht h).mono ?_
  rintro e w1 ⟨rfl, rfl⟩
  go_wp2_with fail
  go_ret
  exact ⟨rfl, rfl⟩
set_option maxHeartbeats 400000 in
theorem after_yes (i : Int) (w : World) (hi : i ≤ 2147483647) (hn : S.length < 1000000) (h : LRep w pl pa bl ba S ls f nx li) (hb : 1 ≤ (ndT S i).tag ∧ (ndT S i).tag ≤ 100) :
    Calls Try.prog 231 #[P0 pl, .int .i32 i] w fun e w' => e = .returned (.int .i32 (ndT S i).next) ∧ Below w.heap.size w w' := by
  have c0 := h.hl.cell 0
  simp only [List.getElem?_cons_zero] at c0
  have t0 : (((ndT S i).tag - 1 : Int) == -1) = false := by
    rw [beq_eq_false_iff_ne]; omega
  have nf := node_next
  go_enter Try.func231, Try.ntmps231
  go_wp2_with fail
  refine (tag_any pl pa bl ba S ls f nx li i _ hi hn h (by omega)).mono ?_
  rintro e w1 ⟨rfl, hb1⟩
  have h1 := h.keep hb1
  have c1 := h1.hl.cell 0
  simp only [List.getElem?_cons_zero] at c1
  have HB1 := Go.Lib.hid hb1
  clear hb1 c0
  go_wp2_with fail
  refine (at_any pa ba S f nx li i _ hi hn h1.ha h1.ba).mono ?_
  simp only [encN]
  rintro e w2 ⟨rfl, hb2⟩
  go_wp2_with fail
  go_ret
  exact ⟨rfl, HB1.out.trans (hb2.mono HB1.out.size)⟩
end
end Go.Proofs.Ytlakojncjldpbaa
