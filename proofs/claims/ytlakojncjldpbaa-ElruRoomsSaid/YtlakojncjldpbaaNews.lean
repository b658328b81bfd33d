/- What is new: an arena, lists, a table. -/
import Derived.Test.YtlakojncjldpbaaTDel
import Derived.Test.YtlakojncjldpbaaLlen
import Derived.Test.YtlakojncjldpbaaOutl
namespace Go.Proofs.Ytlakojncjldpbaa
open Go.RowKit Hop
set_option linter.unusedVariables false
set_option linter.unusedSimpArgs false
set_option maxRecDepth 100000
theorem list_info : (Try.prog.info? 208).map (fun i => (i.zero, i.size, i.bytes)) = some (some (.agg (encL Li.z).toArray), 3, 16) := by kernel_rfl
set_option maxHeartbeats 800000 in
theorem anew_any (w : World) :
    Calls Try.prog 163 #[.int .i64 7] w fun e w' => ∃ pa ba, w.heap.size ≤ pa ∧ w.heap.size ≤ ba ∧ e = .returned (P0 pa) ∧ Below w.heap.size w w' ∧ Blk w' pa [S0 ba (List.replicate 8 Sl.z).length, .slice none 0 0, .int .i64 1, .int .i64 0] 189 ∧ Blk w' ba (flat encS (List.replicate 8 Sl.z)) 201 := by
  go_enter Try.func163, Try.ntmps163
  go_wp2_with (refine wpList_make_rows _ encS Sl.z 7 encS_len (by omega) rfl (.tmp 6) 187 rfl 201 48 Try.underlying187 slot_info 8 8 rfl (by omega) (by omega) (by unfold maxLen; omega) ?_)
  go_ret
  exact ⟨_, _, Nat.le_succ _, Nat.le_refl _, rfl, (((Below.refl _ w).alloc (Nat.le_refl _) _).alloc (by simp) _), Blk.new1 w _ [S0 w.heap.size 8, .slice none 0 0, .int .i64 1, .int .i64 0] 189, (Blk.new0 w (flat encS (List.replicate 8 Sl.z)) 201).alloc _⟩
set_option maxHeartbeats 800000 in
theorem tnew_any (w : World) :
    Calls Try.prog 165 #[] w fun e w' => ∃ pt bt, w.heap.size ≤ pt ∧ w.heap.size ≤ bt ∧ e = .returned (P0 pt) ∧ Below w.heap.size w w' ∧ TRep w' pt bt (List.replicate 8 Ts.z) 0 := by
  go_enter Try.func165, Try.ntmps165
  go_wp2_with (refine wpList_make_rows _ encT Ts.z 3 encT_len (by omega) rfl (.const (.int .i64 8)) 193 rfl 213 16 Try.underlying193 tslot_info 8 8 rfl (by omega) (by omega) (by unfold maxLen; omega) ?_)
  go_ret
  exact ⟨_, _, Nat.le_succ _, Nat.le_refl _, rfl, (((Below.refl _ w).alloc (Nat.le_refl _) _).alloc (by simp) _), ⟨Blk.new1 w _ [S0 w.heap.size 8, .int .i64 0] 195, (Blk.new0 w (flat encT (List.replicate 8 Ts.z)) 213).alloc _⟩⟩
set_option maxHeartbeats 800000 in
theorem lnew_any (pa q : Nat) (w : World) (h1 : 1 ≤ q) (h8 : q ≤ 8) :
    Calls Try.prog 164 #[P0 pa, .int .i64 q] w fun e w' => ∃ pl bl, w.heap.size ≤ pl ∧ w.heap.size ≤ bl ∧ e = .returned (P0 pl) ∧ Below w.heap.size w w' ∧ Blk w' pl [P0 pa, S0 bl (List.replicate q Li.z).length] 192 ∧ Blk w' bl (flat encL (List.replicate q Li.z)) 208 := by
  go_enter Try.func164, Try.ntmps164
  go_wp2_with (refine wpList_make_rows _ encL Li.z 3 encL_len (by omega) rfl (.tmp 8) 190 rfl 208 16 Try.underlying190 list_info q q rfl (by omega) (by omega) (by unfold maxLen; omega) ?_)
  go_ret
  refine ⟨_, _, Nat.le_succ _, Nat.le_refl _, rfl, (((Below.refl _ w).alloc (Nat.le_refl _) _).alloc (by simp) _), ?_, (Blk.new0 w (flat encL (List.replicate q Li.z)) 208).alloc _⟩
  rw [List.length_replicate]
  exact Blk.new1 w _ [P0 pa, S0 w.heap.size q] 192
end Go.Proofs.Ytlakojncjldpbaa
