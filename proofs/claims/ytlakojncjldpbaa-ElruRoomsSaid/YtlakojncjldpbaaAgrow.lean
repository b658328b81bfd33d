/- The arena grows. -/
import Derived.Test.YtlakojncjldpbaaAt
import Derived.Test.YtlakojncjldpbaaLaws
namespace Go.Proofs.Ytlakojncjldpbaa
open Go.RowKit Hop
set_option linter.unusedVariables false
set_option linter.unusedSimpArgs false
set_option maxRecDepth 100000
theorem slot_info : (Try.prog.info? 201).map (fun i => (i.zero, i.size, i.bytes)) = some (some (.agg (encS Sl.z).toArray), 7, 48) := by kernel_rfl
theorem slot_size : (Try.prog.info? 201).map (·.size) = some 7 := by kernel_rfl
theorem one_flat {α : Type} {enc : α → List Value} (h : ∀ x, ∀ v ∈ enc x, v.oneCell' = true) (l : List α) : ∀ v ∈ flat enc l, v.oneCell' = true := by
  intro v hv
  unfold flat at hv
  obtain ⟨x, _, hx⟩ := List.mem_flatMap.1 hv
  exact h x v hx
theorem encS_one (x : Sl) : ∀ v ∈ encS x, v.oneCell' = true := by intro v hv; simp [encS] at hv; rcases hv with rfl | rfl | rfl | rfl | rfl | rfl | rfl <;> rfl
set_option maxHeartbeats 800000 in
theorem agrow_any (pa ba : Nat) (S : List Sl) (f nx li : Value) (w : World) (hn : S.length < 1000000)
    (ha : Blk w pa [S0 ba S.length, f, nx, li] 189) (hb : Blk w ba (flat encS S) 201) :
    Calls Try.prog 236 #[P0 pa] w fun e w' => e = .returned (.tuple #[]) ∧ ∃ ba', w.heap.size ≤ ba' ∧ Fr (· = pa) w w' ∧ Blk w' pa [S0 ba' (2 * S.length), f, nx, li] 189 ∧ Blk w' ba' (flat encS (S ++ List.replicate S.length Sl.z)) 201 := by
  have c0 := ha.cell 0
  have f0 := ha.frozen 0
  simp only [List.getElem?_cons_zero] at c0
  have l0 := ha.lt
  have l1 := hb.lt
  have hlen := flat_length encS_len S
  have hone := one_flat encS_one S
  have HL := Go.Lib.hid hlen
  have HO := Go.Lib.hid hone
  clear hlen hone
  go_enter Try.func236, Try.ntmps236
  go_wp2_with (first | (refine wpList_make_rows _ encS Sl.z 7 encS_len (by omega) rfl (.tmp 8) 187 rfl 201 48 Try.underlying187 slot_info (2 * S.length) (2 * S.length) rfl (by omega) (by omega) (by unfold maxLen; omega) ?_) | (with_reducible refine wpList_copy_rows rfl (.tmp 10) (.tmp 14) 187 187 rfl 201 Try.underlying187 7 slot_size w.heap.size ba (2 * S.length) (2 * S.length) S.length S.length rfl rfl (flat encS (List.replicate (2 * S.length) Sl.z)) (flat encS S) 201 201 (Blk.new0 _ _ _) (hb.alloc _) (by omega) HL.out ?c1 HO.out ?_))
  case c1 => rw [flat_length encS_len, flat_length encS_len, List.length_replicate]; omega
  intro w1 hf1 hb1
  have a1 : Blk w1 pa [S0 ba S.length, f, nx, li] 189 := hf1.blk (by show ¬ pa = w.heap.size; omega) (ha.alloc _)
  have g1 := a1.frozen 0
  have c1 := a1.cell 0
  have F1 : Fr (· = pa) w w1 := ((Fr.refl _ w).alloc _).trans hf1 (fun k hk => .inr (by omega))
  have e1 : flat encS S ++ (flat encS (List.replicate (2 * S.length) Sl.z)).drop (flat encS S).length = flat encS (S ++ List.replicate S.length Sl.z) := by
    have h2 : List.replicate (2 * S.length) Sl.z = List.replicate S.length Sl.z ++ List.replicate S.length Sl.z := by rw [List.replicate_append_replicate]; congr 1; omega
    rw [h2]
    have h3 : flat encS (List.replicate S.length Sl.z ++ List.replicate S.length Sl.z) = flat encS (List.replicate S.length Sl.z) ++ flat encS (List.replicate S.length Sl.z) := by unfold flat; rw [List.flatMap_append]
    have h4 : flat encS (S ++ List.replicate S.length Sl.z) = flat encS S ++ flat encS (List.replicate S.length Sl.z) := by unfold flat; rw [List.flatMap_append]
    rw [h3, h4]
    congr 1
    have h5 : (flat encS S).length = (flat encS (List.replicate S.length Sl.z)).length := by rw [flat_length encS_len, flat_length encS_len, List.length_replicate]
    rw [h5, List.drop_left]
  rw [e1] at hb1
  simp only [List.getElem?_cons_zero] at c1
  have l2 := a1.lt
  have hne : w.heap.size ≠ pa := by omega
  have HF := Go.Lib.hid hf1
  have HB1 := Go.Lib.hid hb1
  clear hf1 hb1 e1 c0 f0
  go_wp2_with fail
  go_end0
  refine ⟨rfl, w.heap.size, Nat.le_refl _, F1.setEq rfl _, a1.set 0 _, HB1.out.set_ne hne _⟩
end Go.Proofs.Ytlakojncjldpbaa
