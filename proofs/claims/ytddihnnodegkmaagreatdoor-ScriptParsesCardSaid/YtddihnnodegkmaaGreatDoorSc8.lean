/- A text's lines, by the iterator. -/
import Derived.Test.YtddihnnodegkmaaGreatDoorSc7
import Derived.Test.YtddihnnodegkmaaGreatDoorRfz
namespace Go.Proofs.YtddihnnodegkmaaGreatDoor
open Go.RowKit Go.Shelf Hop
set_option linter.unusedVariables false
set_option linter.unusedSimpArgs false
set_option maxRecDepth 100000
attribute [local go_sem] Oper.semAt_some
def cutA (s : ByteArray) : ByteArray := ⟨(Lib.cut s.data.toList [10]).1.toArray⟩
def cutB (s : ByteArray) : ByteArray := ⟨(Lib.cut s.data.toList [10]).2.1.toArray⟩
def lnF : Nat → ByteArray → List ByteArray
  | 0, _ => []
  | f + 1, s => if s.size = 0 then [] else cutA s :: lnF f (cutB s)
theorem cut_len (l : List UInt8) (h : l ≠ []) : (Lib.cut l [10]).2.1.length < l.length ∧ (Lib.cut l [10]).1.length ≤ l.length := by
  have hl : 0 < l.length := List.length_pos_iff.2 h
  unfold Lib.cut
  split
  · simp only [List.length_drop, List.length_take, List.length_cons, List.length_nil]; omega
  · simp only [List.length_nil]; omega
theorem cutB_size {s : ByteArray} (h : s.size ≠ 0) : (cutB s).size < s.size ∧ (cutA s).size ≤ s.size := by
  have e1 : s.data.toList.length = s.size := by rw [Array.length_toList]; rfl
  have hne : s.data.toList ≠ [] := by
    intro e
    rw [e] at e1
    exact h e1.symm
  have := cut_len _ hne
  have e2 : (cutB s).size = (Lib.cut s.data.toList [10]).2.1.length := by show (List.toArray _).size = _; rw [List.size_toArray]
  have e3 : (cutA s).size = (Lib.cut s.data.toList [10]).1.length := by show (List.toArray _).size = _; rw [List.size_toArray]
  omega
theorem lnF_more : ∀ (f : Nat) (s : ByteArray), s.size ≤ f → lnF (f + 1) s = lnF f s
  | 0, s, h => by have e : s.size = 0 := by omega
                  simp [lnF, e]
  | f + 1, s, h => by
    rw [lnF]
    conv => rhs; rw [lnF]
    split
    · rfl
    · rename_i hne
      have := cutB_size hne
      rw [lnF_more f (cutB s) (by omega)]
theorem lnF_step (s : ByteArray) (h : s.size ≠ 0) : lnF s.size s = cutA s :: lnF (cutB s).size (cutB s) := by
  have hb := cutB_size h
  obtain ⟨f, hf⟩ : ∃ f, s.size = f + 1 := ⟨s.size - 1, by omega⟩
  have e : ∀ d, lnF ((cutB s).size + d) (cutB s) = lnF (cutB s).size (cutB s) := by
    intro d
    induction d with
    | zero => rfl
    | succ d ih => rw [← Nat.add_assoc, lnF_more _ _ (by omega), ih]
  rw [hf, lnF, if_neg (by omega)]
  have := e (f - (cutB s).size)
  rw [show (cutB s).size + (f - (cutB s).size) = f by omega] at this
  rw [this]
theorem lnF_zero (s : ByteArray) (h : s.size = 0) : lnF s.size s = [] := by rw [h]; rfl
theorem Env.low {w w' : World} {n₀ : Nat} (h : Env w) (hl : ∀ k, k < n₀ → w'.heap[k]? = w.heap[k]?) (hn : 5 ≤ n₀) : Env w' := by
  obtain ⟨h1, h2, ⟨a, b, h3⟩, ⟨c, d, h4⟩, ⟨m, h5⟩⟩ := h
  have K : ∀ (a : Addr) (v : Value), a.block < n₀ → w.cell? a = some v → w'.cell? a = some v := fun a v ha hv => by
    rw [World.cell?_of_block (hl _ ha)]; exact hv
  refine ⟨K _ _ (by simp; omega) h1, ?_, ⟨a, b, K _ _ (by simp; omega) h3⟩, ⟨c, d, K _ _ (by simp; omega) h4⟩, ⟨m, K _ _ (by simp; omega) h5⟩⟩
  have hg : Tryz.prog.globalNamed "internal/strconv.uint64pow10" = some 1 := by kernel_rfl
  unfold P10 Lib.TabIs World.var? at h2 ⊢
  rw [hg] at h2 ⊢
  simp only [Option.bind_some] at h2 ⊢
  rw [hl _ (by omega)]
  exact h2
theorem cell_lt {w : World} {a : Addr} {v : Value} (h : w.cell? a = some v) : a.block < w.heap.size := by
  rcases Nat.lt_or_ge a.block w.heap.size with h' | h'
  · exact h'
  · simp [World.cell?, Array.getElem?_eq_none h'] at h
theorem Env.size {w : World} (h : Env w) : 5 ≤ w.heap.size := by
  obtain ⟨_, _, ⟨a, b, h3⟩, ⟨c, d, h4⟩, ⟨m, h5⟩⟩ := h
  have q3 := cell_lt h3
  have q4 := cell_lt h4
  have q5 := cell_lt h5
  simp only at q3 q4 q5
  omega
theorem cut_any (s : ByteArray) (w : World) (hs : s.size ≤ 100000) (h : Env w) :
    Calls Tryz.prog 33 #[.string s, .string ⟨#[10]⟩] w fun e w' => ∃ ok, e = .returned (.tuple #[.string (cutA s), .string (cutB s), .bool ok]) ∧ ∃ n, w' = w.drewN n := by
  obtain ⟨m, hm⟩ := h.ml
  refine (Tryz.strings_Cut s ⟨#[10]⟩ m w (by omega) hm).mono ?_
  rintro e w' ⟨rfl, hn⟩
  exact ⟨_, rfl, hn⟩
set_option maxHeartbeats 400000 in
theorem lines_any (s : ByteArray) (w : World) :
    Calls Tryz.prog 20 #[.string s] w fun e w' => e = .returned (.func (.func 32) #[] #[.pointer (some ⟨w.heap.size, 0, none⟩)]) ∧ w' = w.alloc (.cells #[.string s] 9) := by
  go_enter Tryz.func20, Tryz.ntmps20
  go_wp2
  go_ret
  exact ⟨rfl, rfl⟩
theorem fr_drewN (own : Nat → Prop) (w : World) (q : Nat) : Fr own w (w.drewN q) := ⟨rfl, rfl, rfl, Nat.le_refl _, fun _ _ _ => rfl⟩
set_option maxHeartbeats 3200000 in
theorem lines1_iter (s : ByteArray) (n₀ Z : Nat) (w : World) (hs : s.size ≤ 100000) (hn : 5 ≤ n₀) (hnZ : n₀ ≤ Z) (hb : Blk w Z [.string s] 9) (hE : Env w) :
    IterZ Fence.wide 3 Tryz.prog 32 #[.pointer (some ⟨Z, 0, none⟩)] (fun x : ByteArray => .string x) n₀ Z (fun ys => ys = lnF s.size s) (fun pre => pre <+: lnF s.size s) (lnF s.size s).length w := by
  intro l J Jx W hW sJ sJx hY h0
  have hbW := hb.keep hW
  have hEW := hE.keep hW
  have HSJ := Go.Lib.hid sJ
  have HY := Go.Lib.hid hY
  have HE := Go.Lib.hid hEW
  have c0 := hbW.cell 0
  simp only [List.getElem?_cons_zero] at c0
  have hlw := hbW.lt
  clear hb hE hW sJ sJx hY hEW
  refine callsIn_of_wp Tryz.func32 rfl trivial ?_ rfl
  simp only [Tryz.ntmps32, List.size_toArray, List.length_cons, List.length_nil, Nat.reduceAdd, Nat.reduceSub, Array.replicate_succ, Array.replicate_zero, List.push_toArray, List.append_toArray, List.nil_append, List.cons_append]
  gi_wp2
  gi_loopw [6] (fun v wr => ∃ (pre : List ByteArray) (t : ByteArray), Blk wr Z [.string t] 9 ∧ Hid (lnF s.size s = pre ++ lnF t.size t) ∧ t.size ≤ 100000 ∧ J pre wr ∧ Hid (∀ k, k < n₀ → wr.heap[k]? = W.heap[k]?)) (fun v wr => match wr.cell? ⟨Z, 0, none⟩ with | some (.string t) => t.size | _ => 0)
  case atStart => exact ⟨[], s, hbW, Go.Lib.hid rfl, hs, h0, Go.Lib.hid (fun _ _ => rfl)⟩
  case round =>
    obtain ⟨pre, t, hbt, hx, hts, hJ, hlow⟩ := hrel
    have c0' := hbt.cell 0
    simp only [List.getElem?_cons_zero] at c0'
    have hlt := hbt.lt
    have HB := Go.Lib.hid hbt
    have HJ := Go.Lib.hid hJ
    by_cases hz : t.size = 0
    · have ht0 : t = ⟨#[]⟩ := by
        apply ByteArray.ext
        exact Array.eq_empty_of_size_eq_zero hz
      have hx0 : Hid (lnF s.size s = pre) := Go.Lib.hid (by rw [hx.out, lnF_zero t hz, List.append_nil])
      subst ht0
      clear hx hbt hJ hz
      gi_wp2
      go_end0
      exact ⟨⟨_, rfl⟩, .inl ⟨pre, hx0.out.symm, HJ.out⟩⟩
    · have hne : t.toList.isEmpty = false := by
        cases h : t.toList.isEmpty with
        | false => rfl
        | true =>
          have h2 : t.toList = [] := by simpa using h
          have h3 : t.data.toList = [] := by rw [← ByteArray.toList_eq t]; exact h2
          have h4 : t.data.toList.length = t.size := by rw [Array.length_toList]; rfl
          rw [h3] at h4
          exact absurd h4.symm hz
      have hx1 : Hid (lnF s.size s = pre ++ cutA t :: lnF (cutB t).size (cutB t)) := Go.Lib.hid (by rw [hx.out, lnF_step t hz])
      have hsz := cutB_size hz
      have HEr : Hid (Env wr) := Go.Lib.hid (HE.out.low hlow.out hn)
      have HCU := Go.Lib.hid (cut_any t wr hts HEr.out)
      have hlen : pre.length < (lnF s.size s).length := by rw [hx1.out, List.length_append, List.length_cons]; omega
      have HLN := Go.Lib.hid hlen
      have HPX : Hid (pre ++ [cutA t] <+: lnF s.size s) := Go.Lib.hid ⟨lnF (cutB t).size (cutB t), by rw [hx1.out]; simp⟩
      clear hx hbt hJ hlen
      gi_wp2_with (refine ⟨trivial, ?_⟩; gi_at_call 33; refine (callsIn_wide.2 HCU.out).mono ?_; rintro e w' ⟨ok, rfl, q, rfl⟩)
      have hJd : J pre (wr.drewN q) := HSJ.out _ _ _ (fr_drewN _ _ _) HJ.out
      obtain ⟨fn, tmps, assign, body, hy, hRd⟩ := HY.out pre (cutA t) (wr.drewN q) hJd HLN.out HPX.out
      have HHR := Go.Lib.hid hRd
      clear hRd hJd
      rw [hy]
      gi_wp2
      refine HHR.out.mono ?_
      rintro e W3 (⟨rfl, hJ3, hz3, hl3, hs3⟩ | ⟨rfl, hJx3⟩)
      · have b3 : Blk W3 Z [.string t] 9 := HB.out.of_heap hz3
        have b4 : Blk (W3.setCell ⟨Z, 0, none⟩ (.string (cutB t))) Z [.string (cutB t)] 9 := b3.set 0 _
        have c3 := b3.cell 0
        have f3 := b3.frozen 0
        simp only [List.getElem?_cons_zero] at c3
        have lt3 := b3.lt
        have HB4 := Go.Lib.hid b4
        have HJ4 : Hid (J (pre ++ [cutA t]) (W3.setCell ⟨Z, 0, none⟩ (.string (cutB t)))) := Go.Lib.hid (HSJ.out _ _ _ ((Fr.refl (fun k => k = Z) W3).setEq rfl _) hJ3)
        have HL4 : Hid (∀ k, k < n₀ → (W3.setCell ⟨Z, 0, none⟩ (.string (cutB t))).heap[k]? = W.heap[k]?) := Go.Lib.hid (fun k hk => by
          rw [Below.heap_setCell _ _ _ _ (by show k ≠ Z; omega), hl3 k hk (by show k < wr.heap.size; omega)]
          exact hlow.out k hk)
        have HX4 : Hid (lnF s.size s = (pre ++ [cutA t]) ++ lnF (cutB t).size (cutB t)) := Go.Lib.hid (by rw [hx1.out]; simp)
        clear b3 b4 hJ3 hz3 hl3 c0'
        gi_wp2
        go_roundw
        case rel => exact ⟨pre ++ [cutA t], cutB t, HB4.out, HX4, by omega, HJ4.out, HL4⟩
        case measure =>
          have q4 := HB4.out.cell 0
          have q0 := HB.out.cell 0
          simp only [List.getElem?_cons_zero] at q4 q0
          rw [q4, q0]
          exact hsz.1
      · gi_wp2
        refine bodyPost_ret (results_none rfl _ _ _) rfl ?_
        exact ⟨⟨_, rfl⟩, .inr ⟨pre ++ [cutA t], ⟨lnF (cutB t).size (cutB t), by rw [hx1.out]; simp⟩, hJx3⟩⟩
end Go.Proofs.YtddihnnodegkmaaGreatDoor
