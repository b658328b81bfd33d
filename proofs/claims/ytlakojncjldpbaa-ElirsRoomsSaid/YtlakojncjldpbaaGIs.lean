/- The arena's reads. -/
import Derived.Test.YtlakojncjldpbaaGTab
import Derived.Test.YtlakojncjldpbaaProg
import Derived.BigQuiet
import Derived.Deep.QuietTactic
import Derived.Lib.Hide
import Derived.StillTailTactics
import Derived.Deep.DeepFit
import Derived.Deep.RegionWith
import Derived.Deep.RegionHeld3
import Derived.Deep.DeepCutAuto
import Derived.Deep.CutBlock
import Derived.Deep.LoopGhost
import Derived.WalkSpells
import Derived.BigGuardPart
namespace Go.Proofs.Ytlakojncjldpbaa
open Go.RowKit Hop
set_option linter.unusedVariables false
set_option linter.unusedSimpArgs false
set_option maxRecDepth 100000
set_option maxHeartbeats 400000 in
theorem is_yes (pa ba : Nat) (S : List Sl) (f nx lv : Value) (i : Int) (w : World) (h0 : 0 < i) (h1 : i < S.length) (hn : S.length < 1000000)
    (ha : Blk w pa [.slice (some ⟨ba, 0, none⟩) S.length S.length, f, nx, lv] 189) (hb : Blk w ba (flat encS S) 201) :
    Calls Try.prog 202 #[.pointer (some ⟨pa, 0, none⟩), .int .i32 i] w fun e w' => e = .returned (.bool (sg S i).taken) ∧ w = w' := by
  have c0 := ha.cell 0
  simp only [List.getElem?_cons_zero] at c0
  obtain ⟨n, rfl⟩ := Int.eq_ofNat_of_zero_le (Int.le_of_lt h0)
  have c1 : w.cell? ⟨ba, n * 7 + 6, none⟩ = some (.bool (sg S n).taken) := by
    rw [hb.cell, flat_get encS_len S n 6 (by omega) (by omega)]
    simp [encS, gt, show n < S.length by omega]
  clear ha hb
  have h0' : 0 < n := by omega
  have h1' : n < S.length := by omega
  go_enter Try.func202, Try.ntmps202
  go_wp2
  go_ret
  exact ⟨by simp [gt], rfl⟩

/-- 'Is' of any number. -/
theorem is_any (pa ba : Nat) (S : List Sl) (f nx lv : Value) (i : Int) (w : World) (hi : i ≤ 2147483647) (hn : S.length < 1000000)
    (ha : Blk w pa [.slice (some ⟨ba, 0, none⟩) S.length S.length, f, nx, lv] 189) (hb : Blk w ba (flat encS S) 201) :
    Calls Try.prog 202 #[.pointer (some ⟨pa, 0, none⟩), .int .i32 i] w fun e w' => e = .returned (.bool (isT S i)) ∧ w = w' := by
  by_cases h0 : 0 < i
  · by_cases h1 : i < S.length
    · have e : isT S i = (sg S i).taken := by simp [isT, h0, h1]
      rw [e]
      exact is_yes pa ba S f nx lv i w h0 h1 hn ha hb
    · have e : isT S i = false := by simp [isT, h1]
      rw [e]
      have c0 := ha.cell 0
      simp only [List.getElem?_cons_zero] at c0
      clear ha hb
      go_enter Try.func202, Try.ntmps202
      go_wp2
      go_ret
      exact ⟨rfl, rfl⟩
  · have e : isT S i = false := by simp [isT, h0]
    rw [e]
    clear ha hb
    go_enter Try.func202, Try.ntmps202
    go_wp2
    go_ret
    exact ⟨rfl, rfl⟩
end Go.Proofs.Ytlakojncjldpbaa

namespace Go.Proofs.Ytlakojncjldpbaa
open Go.RowKit Hop
set_option linter.unusedVariables false
set_option linter.unusedSimpArgs false
set_option maxRecDepth 100000
def ndT (S : List Sl) (i : Int) : Nd := if isT S i = true then (sg S i).nd else Nd.z
theorem isT_lt {S : List Sl} {i : Int} (h : isT S i = true) : 0 < i ∧ i < S.length ∧ (sg S i).taken = true := by
  simp [isT] at h; exact ⟨h.1, h.2.1, h.2.2⟩
theorem slot_cell {w : World} {ba : Nat} {S : List Sl} (hb : Blk w ba (flat encS S) 201) {n j : Nat} (hn : n < S.length) (hj : j < 7) : w.cell? ⟨ba, n * 7 + j, none⟩ = (encS (sg S n))[j]? := by
  rw [hb.cell, flat_get encS_len S n j hn hj]
  have e : sg S n = S[n] := by simp [gt, hn]
  rw [e]
theorem slot_write {w : World} {ba : Nat} {S : List Sl} (hb : Blk w ba (flat encS S) 201) {n : Nat} (hn : n < S.length) (ht : (sg S n).taken = true) (x : Nd) :
    Blk ((((((w.setCell ⟨ba, n * 7, none⟩ (.int .u64 x.key)).setCell ⟨ba, n * 7 + 1, none⟩ (.int .u64 x.val)).setCell ⟨ba, n * 7 + 2, none⟩ (.int .i64 x.flag)).setCell ⟨ba, n * 7 + 3, none⟩ (.int .i64 x.tag)).setCell
      ⟨ba, n * 7 + 4, none⟩ (.int .i32 x.prev)).setCell ⟨ba, n * 7 + 5, none⟩ (.int .i32 x.next)) ba (flat encS (st S n ⟨x, true⟩)) 201 := by
  have h := (((((hb.set (n * 7) (.int .u64 x.key)).set (n * 7 + 1) (.int .u64 x.val)).set (n * 7 + 2) (.int .i64 x.flag)).set (n * 7 + 3) (.int .i64 x.tag)).set (n * 7 + 4) (.int .i32 x.prev)).set (n * 7 + 5) (.int .i32 x.next)
  have e : sg S n = S[n] := by simp [gt, hn]
  rw [e] at ht
  have q0 := flat_set encS_len S n 0 hn (.int .u64 x.key) ⟨⟨x.key, S[n].nd.val, S[n].nd.flag, S[n].nd.tag, S[n].nd.prev, S[n].nd.next⟩, true⟩ (by omega) (by simp [encS, ht])
  have q1 := flat_set encS_len (S.set n ⟨⟨x.key, S[n].nd.val, S[n].nd.flag, S[n].nd.tag, S[n].nd.prev, S[n].nd.next⟩, true⟩) n 1 (by simpa using hn) (.int .u64 x.val) ⟨⟨x.key, x.val, S[n].nd.flag, S[n].nd.tag, S[n].nd.prev, S[n].nd.next⟩, true⟩ (by omega) (by simp [encS])
  have q2 := flat_set encS_len (S.set n ⟨⟨x.key, x.val, S[n].nd.flag, S[n].nd.tag, S[n].nd.prev, S[n].nd.next⟩, true⟩) n 2 (by simpa using hn) (.int .i64 x.flag) ⟨⟨x.key, x.val, x.flag, S[n].nd.tag, S[n].nd.prev, S[n].nd.next⟩, true⟩ (by omega) (by simp [encS])
  have q3 := flat_set encS_len (S.set n ⟨⟨x.key, x.val, x.flag, S[n].nd.tag, S[n].nd.prev, S[n].nd.next⟩, true⟩) n 3 (by simpa using hn) (.int .i64 x.tag) ⟨⟨x.key, x.val, x.flag, x.tag, S[n].nd.prev, S[n].nd.next⟩, true⟩ (by omega) (by simp [encS])
  have q4 := flat_set encS_len (S.set n ⟨⟨x.key, x.val, x.flag, x.tag, S[n].nd.prev, S[n].nd.next⟩, true⟩) n 4 (by simpa using hn) (.int .i32 x.prev) ⟨⟨x.key, x.val, x.flag, x.tag, x.prev, S[n].nd.next⟩, true⟩ (by omega) (by simp [encS])
  have q5 := flat_set encS_len (S.set n ⟨⟨x.key, x.val, x.flag, x.tag, x.prev, S[n].nd.next⟩, true⟩) n 5 (by simpa using hn) (.int .i32 x.next) ⟨x, true⟩ (by omega) (by simp [encS])
  simp only [List.set_set] at q1 q2 q3 q4 q5
  simp only [Nat.add_zero] at q0
  rw [q0, q1, q2, q3, q4, q5] at h
  simpa [st] using h
set_option maxHeartbeats 400000 in
theorem at_any (pa ba : Nat) (S : List Sl) (f nx lv : Value) (i : Int) (w : World) (hi : i ≤ 2147483647) (hn : S.length < 1000000)
    (ha : Blk w pa [.slice (some ⟨ba, 0, none⟩) S.length S.length, f, nx, lv] 189) (hb : Blk w ba (flat encS S) 201) :
    Calls Try.prog 170 #[.pointer (some ⟨pa, 0, none⟩), .int .i32 i] w fun e w' => e = .returned (.agg (encN (ndT S i)).toArray) ∧ Below w.heap.size w w' := by
  cases ht : isT S i with
  | false =>
    have HT := Go.Lib.hid ht
    clear ht
    go_enter Try.func170, Try.ntmps170
    go_wp2_with fail
    refine (is_any pa ba S f nx lv i _ hi hn (ha.alloc _) (hb.alloc _)).mono ?_
    rw [HT.out]
    rintro e w' ⟨rfl, rfl⟩
    go_wp2_with fail
    refine bodyPost_ret (v := .agg (encN Nd.z).toArray) (by simp [results, Try.results170, go_sem, encN, Nd.z]) rfl ⟨?_, (Below.refl _ _).alloc (Nat.le_refl _) _⟩
    simp [ndT, HT.out]
  | true =>
    obtain ⟨h0, h1, h2⟩ := isT_lt ht
    obtain ⟨n, rfl⟩ := Int.eq_ofNat_of_zero_le (Int.le_of_lt h0)
    have h0' : 0 < n := by omega
    have h1' : n < S.length := by omega
    have c0 := ha.cell 0
    have d0 := slot_cell hb h1' (j := 0) (by omega)
    have d1 := slot_cell hb h1' (j := 1) (by omega)
    have d2 := slot_cell hb h1' (j := 2) (by omega)
    have d3 := slot_cell hb h1' (j := 3) (by omega)
    have d4 := slot_cell hb h1' (j := 4) (by omega)
    have d5 := slot_cell hb h1' (j := 5) (by omega)
    have l1 := ha.lt
    have l2 := hb.lt
    have e : ndT S n = (sg S n).nd := by simp [ndT, ht]
    rw [e]
    generalize sg S n = x at *
    simp only [encS, List.getElem?_cons_zero, List.getElem?_cons_succ, Nat.add_zero] at c0 d0 d1 d2 d3 d4 d5
    have HT := Go.Lib.hid ht
    clear ht h2 e
    go_enter Try.func170, Try.ntmps170
    go_wp2_with fail
    refine (is_any pa ba S f nx lv n _ hi hn (ha.alloc _) (hb.alloc _)).mono ?_
    rw [HT.out]
    rintro e w' ⟨rfl, rfl⟩
    go_wp2_with fail
    refine bodyPost_ret (v := .agg (encN x.nd).toArray) (by simp [results, Try.results170, go_sem, encN]) rfl ⟨rfl, ?_⟩
    exact (Below.refl _ _).alloc (Nat.le_refl _) _
set_option maxHeartbeats 400000 in
theorem set_yes (pa ba : Nat) (S : List Sl) (f nx lv : Value) (i : Int) (x : Nd) (w : World) (hn : S.length < 1000000) (ht : isT S i = true)
    (ha : Blk w pa [.slice (some ⟨ba, 0, none⟩) S.length S.length, f, nx, lv] 189) (hb : Blk w ba (flat encS S) 201) :
    Calls Try.prog 217 #[.pointer (some ⟨pa, 0, none⟩), .int .i32 i, .agg (encN x).toArray] w fun e w' => e = .returned (.bool true) ∧ Fr (· = ba) w w' ∧ Blk w' ba (flat encS (st S i ⟨x, true⟩)) 201 := by
  obtain ⟨h0, h1, h2⟩ := isT_lt ht
  obtain ⟨n, rfl⟩ := Int.eq_ofNat_of_zero_le (Int.le_of_lt h0)
  have h0' : 0 < n := by omega
  have h1' : n < S.length := by omega
  have c0 := ha.cell 0
  have d0 := slot_cell hb h1' (j := 0) (by omega)
  have d1 := slot_cell hb h1' (j := 1) (by omega)
  have d2 := slot_cell hb h1' (j := 2) (by omega)
  have d3 := slot_cell hb h1' (j := 3) (by omega)
  have d4 := slot_cell hb h1' (j := 4) (by omega)
  have d5 := slot_cell hb h1' (j := 5) (by omega)
  have f0 := hb.frozen (n * 7)
  have f1 := hb.frozen (n * 7 + 1)
  have f2 := hb.frozen (n * 7 + 2)
  have f3 := hb.frozen (n * 7 + 3)
  have f4 := hb.frozen (n * 7 + 4)
  have f5 := hb.frozen (n * 7 + 5)
  have l1 := ha.lt
  have l2 := hb.lt
  simp only [encS, List.getElem?_cons_zero, List.getElem?_cons_succ, Nat.add_zero] at c0 d0 d1 d2 d3 d4 d5
  have HT := Go.Lib.hid ht
  clear ht h2
  obtain ⟨k, v, fl, tg, pv, nt⟩ := x
  simp only [encN]
  go_enter Try.func217, Try.ntmps217
  go_wp2_with fail
  refine (is_any pa ba S f nx lv n _ (by omega) hn (ha.alloc _) (hb.alloc _)).mono ?_
  rw [HT.out]
  rintro e w' ⟨rfl, rfl⟩
  go_wp2_with fail
  go_region
  all_goals (go_wp2; go_ret)
  all_goals
    refine ⟨rfl, ?_, ?_⟩
    · repeat (with_reducible first | exact Fr.refl _ _ | refine Fr.drew ?_ | refine Fr.alloc ?_ _ | refine Fr.setEq ?_ ?_ _)
      all_goals rfl
    · have hx := (isT_lt HT.out).2.2
      exact Blk.drew (Blk.alloc (slot_write hb h1' hx ⟨k, v, fl, tg, pv, nt⟩) _)
end Go.Proofs.Ytlakojncjldpbaa

namespace Go.Proofs.Ytlakojncjldpbaa
open Go.RowKit Hop
set_option linter.unusedVariables false
set_option linter.unusedSimpArgs false
set_option maxRecDepth 100000
/-- What a closure does to a node that it is handed: it is turned by a function; nothing else. -/
def Turns (K : Nat) (cap : Array Value) (f : Nd → Nd) (w : World) : Prop :=
  ∀ (W : World) (b : Nat) (x : Nd), Below w.heap.size w W → w.heap.size ≤ b → Blk W b (encN x) 164 →
    Calls Try.prog K (#[P0 b] ++ cap) W fun e W' => e = .returned (.tuple #[]) ∧ Fr (· = b) W W' ∧ Blk W' b (encN (f x)) 164
set_option maxHeartbeats 400000 in
set_option maxRecDepth 100000 in
theorem with_yes (pl pa ba : Nat) (S : List Sl) (lv f nx li : Value) (i : Int) (w : World) (hn : S.length < 1000000) (ht : isT S i = true) (K : Nat) (cap : Array Value) (fn : Nd → Nd) (hK : ∀ (args : Array Value) (W : World), (callFunc K args).run Try.prog W = .ok (.enter K args) W) (hc : Turns K cap fn w)
    (hl : Blk w pl [P0 pa, lv] 192) (ha : Blk w pa [S0 ba S.length, f, nx, li] 189) (hb : Blk w ba (flat encS S) 201) :
    Calls Try.prog 206 #[P0 pl, .int .i32 i, .func (.func K) #[] cap] w fun e w' => e = .returned (.tuple #[]) ∧ Fr (· = ba) w w' ∧ Blk w' ba (flat encS (st S i ⟨fn (sg S i).nd, true⟩)) 201 := by
  have c0 := hl.cell 0
  have l0 := hl.lt
  have l1 := hb.lt
  have l2 := ha.lt
  simp only [List.getElem?_cons_zero] at c0
  have HT := Go.Lib.hid ht
  obtain ⟨h0, h1, h2⟩ := isT_lt ht
  have e : ndT S i = (sg S i).nd := by simp [ndT, ht]
  clear ht h2
  generalize (sg S i).nd = x at *
  obtain ⟨k, v, fl, tg, pv, nt⟩ := x
  have HE := Go.Lib.hid e
  clear e
  go_enter Try.func206, Try.ntmps206
  go_wp2_with fail
  refine (at_any pa ba S f nx li i _ (by omega) hn ha hb).mono ?_
  rw [HE.out]
  simp only [encN]
  rintro e w1 ⟨rfl, hb1⟩
  have HB1 := Go.Lib.hid hb1
  clear hb1
  go_wp2_with fail
  refine (hc _ _ ⟨k, v, fl, tg, pv, nt⟩ (HB1.out.alloc HB1.out.size _) HB1.out.size (Blk.new _ _ _)).mono ?_
  rintro e w2 ⟨rfl, hf2, hb2⟩
  have HF2 := Go.Lib.hid hf2
  have HB2 := Go.Lib.hid hb2
  clear hf2 hb2
  have z1 : w.heap.size ≤ w1.heap.size := HB1.out.size
  have g0 : w2.cell? ⟨pl, 0, none⟩ = some (P0 pa) := by
    have h1 := HF2.out.blk (x := pl) (by show ¬ pl = w1.heap.size; omega) ((hl.keep HB1.out).alloc _)
    have h2 := h1.cell 0
    simpa using h2
  have g1 := HB2.out.cell 0
  have g2 := HB2.out.cell 1
  have g3 := HB2.out.cell 2
  have g4 := HB2.out.cell 3
  have g5 := HB2.out.cell 4
  have g6 := HB2.out.cell 5
  simp only [encN, List.getElem?_cons_zero, List.getElem?_cons_succ] at g1 g2 g3 g4 g5 g6
  go_wp2_with fail
  go_still_tail 6, (by kernel_rfl)
  change wpList _ _ _ _ _ w2.drew
  have a2 : Blk w2.drew pa [S0 ba S.length, f, nx, li] 189 := HF2.out.blk (x := pa) (by show ¬ pa = w1.heap.size; omega) ((ha.keep HB1.out).alloc _)
  have b2 : Blk w2.drew ba (flat encS S) 201 := HF2.out.blk (x := ba) (by show ¬ ba = w1.heap.size; omega) ((hb.keep HB1.out).alloc _)
  clear g1 g2 g3 g4 g5 g6
  go_wp2_with fail
  refine (set_yes pa ba S f nx li i (fn ⟨k, v, fl, tg, pv, nt⟩) _ hn HT.out a2 b2).mono ?_
  rintro e w3 ⟨rfl, hf3, hb3⟩
  go_wp2_with fail
  go_end0
  refine ⟨rfl, ?_, hb3⟩
  have q : Fr (· = ba) w w2.drew := ((Fr.of_below HB1.out).alloc _).trans HF2.out.drew (fun k hk => .inr (by subst hk; exact HB1.out.size))
  exact q.trans hf3 (fun k hk => .inl hk)
end Go.Proofs.Ytlakojncjldpbaa

namespace Go.Proofs.Ytlakojncjldpbaa
open Go.RowKit Hop
set_option linter.unusedVariables false
set_option linter.unusedSimpArgs false
set_option maxRecDepth 100000
theorem node_frame {W w : World} {b : Nat} (h : Fr (· = b) W w) : Fr (· = b) W w := h
set_option maxHeartbeats 400000 in
theorem join1_turns (bb : Nat) (v : Int) (w : World) (hb : Blk w bb [.int .i32 v] 21) : Turns 232 #[P0 bb] (fun x => { x with next := v }) w := by
  intro W b x hB hlo hx
  have l0 := hb.lt
  have l1 := hx.lt
  have c0 := (hb.keep hB).cell 0
  have c5 := hx.cell 5
  have f5 := hx.frozen 5
  simp only [encN, List.getElem?_cons_zero, List.getElem?_cons_succ] at c0 c5
  simp only [List.append_toArray, List.cons_append, List.nil_append]
  have HB := Go.Lib.hid hB
  clear hB
  have hne : bb ≠ b := by omega
  go_enter Try.func232, Try.ntmps232
  go_wp2_with fail
  go_end0
  exact ⟨rfl, (Fr.refl (fun x => x = b) _).setEq rfl _, hx.set 5 _⟩
set_option maxHeartbeats 400000 in
theorem join2_turns (bb : Nat) (v : Int) (w : World) (hb : Blk w bb [.int .i32 v] 21) : Turns 233 #[P0 bb] (fun x => { x with prev := v }) w := by
  intro W b x hB hlo hx
  have l0 := hb.lt
  have l1 := hx.lt
  have c0 := (hb.keep hB).cell 0
  have c4 := hx.cell 4
  have f4 := hx.frozen 4
  simp only [encN, List.getElem?_cons_zero, List.getElem?_cons_succ] at c0 c4
  simp only [List.append_toArray, List.cons_append, List.nil_append]
  have HB := Go.Lib.hid hB
  clear hB
  have hne : bb ≠ b := by omega
  go_enter Try.func233, Try.ntmps233
  go_wp2_with fail
  go_end0
  exact ⟨rfl, (Fr.refl (fun x => x = b) _).setEq rfl _, hx.set 4 _⟩
set_option maxHeartbeats 400000 in
theorem remove1_turns (w : World) : Turns 207 #[] (fun x => { x with tag := 0, prev := 0, next := 0 }) w := by
  intro W b x hB hlo hx
  have l1 := hx.lt
  have c3 := hx.cell 3
  have f3 := hx.frozen 3
  have c4 := hx.cell 4
  have f4 := hx.frozen 4
  have c5 := hx.cell 5
  have f5 := hx.frozen 5
  simp only [encN, List.getElem?_cons_zero, List.getElem?_cons_succ] at c3 c4 c5
  simp only [List.append_toArray, List.cons_append, List.nil_append]
  have HB := Go.Lib.hid hB
  clear hB
  go_enter Try.func207, Try.ntmps207
  go_wp2_with fail
  go_end0
  exact ⟨rfl, (((Fr.refl (fun x => x = b) _).setEq rfl _).setEq rfl _).setEq rfl _, ((hx.set 3 _).set 4 _).set 5 _⟩
set_option maxHeartbeats 800000 in
theorem lay1_turns (bt bp bn : Nat) (t p n : Int) (w : World) (ht0 : 0 ≤ t) (ht1 : t ≤ 100) (htp : bt ≠ bp) (htn : bt ≠ bn) (hpn : bp ≠ bn)
    (ht : Blk w bt [.int .i64 t] 3) (hp : Blk w bp [.int .i32 p] 21) (hn : Blk w bn [.int .i32 n] 21) :
    Turns 238 #[P0 bt, P0 bp, P0 bn] (fun x => { x with tag := t + 1, prev := p, next := n }) w := by
  intro W b x hB hlo hx
  have l0 := ht.lt
  have l1 := hp.lt
  have l2 := hn.lt
  have l3 := hx.lt
  have c0 := (ht.keep hB).cell 0
  have c1 := (hp.keep hB).cell 0
  have c2 := (hn.keep hB).cell 0
  have c3 := hx.cell 3
  have f3 := hx.frozen 3
  have c4 := hx.cell 4
  have f4 := hx.frozen 4
  have c5 := hx.cell 5
  have f5 := hx.frozen 5
  simp only [encN, List.getElem?_cons_zero, List.getElem?_cons_succ] at c0 c1 c2 c3 c4 c5
  simp only [List.append_toArray, List.cons_append, List.nil_append]
  have HB := Go.Lib.hid hB
  clear hB
  have hne0 : bt ≠ b := by omega
  have hne1 : bp ≠ b := by omega
  have hne2 : bn ≠ b := by omega
  have b0 : b ≠ bt := by omega
  have b1 : b ≠ bp := by omega
  have b2 : b ≠ bn := by omega
  go_enter Try.func238, Try.ntmps238
  go_wp2_with fail
  go_region
  all_goals (go_wp2; go_end0)
  all_goals exact ⟨rfl, Fr.drew ((((Fr.refl (fun x => x = b) _).setEq rfl _).setEq rfl _).setEq rfl _), Blk.drew (((hx.set 3 _).set 4 _).set 5 _)⟩
end Go.Proofs.Ytlakojncjldpbaa
