/- The arena's At and Set. -/
import Derived.Test.YtlakojncjldpbaaIs
namespace Go.Proofs.Ytlakojncjldpbaa
open Go.RowKit Hop
set_option linter.unusedVariables false
set_option linter.unusedSimpArgs false
set_option maxRecDepth 100000
def ndT (S : List Sl) (i : Int) : Nd := if isT S i = true then (sg S i).nd else Nd.z
theorem isT_lt {S : List Sl} {i : Int} (h : isT S i = true) : 0 < i ∧ i < S.length ∧ (sg S i).taken = true := by
  simp [isT] at h; exact ⟨h.1, h.2.1, h.2.2⟩
theorem slot_cell {w : World} {ba : Nat} {S : List Sl} (hb : Blk w ba (flat encS S) 201) {n j : Nat} (hn : n < S.length) (hj : j < 7) : w.cell? ⟨ba, n * 7 + j, none⟩ = (encS (sg S n))[j]? := by
  rw [hb.cell, flat_get encS_len S n j hn hj]
  have e : sg S n = S[n] := by simp [gt, hn]
  rw [e]
theorem slot_write {w : World} {ba : Nat} {S : List Sl} (hb : Blk w ba (flat encS S) 201) {n : Nat} (hn : n < S.length) (ht : (sg S n).taken = true) (x : Nd) :
    Blk ((((((w.setCell ⟨ba, n * 7, none⟩ (.int .u64 x.key)).setCell ⟨ba, n * 7 + 1, none⟩ (.int .u64 x.val)).setCell ⟨ba, n * 7 + 2, none⟩ (.int .i64 x.flag)).setCell ⟨ba, n * 7 + 3, none⟩ (.int .i64 x.tag)).setCell
      ⟨ba, n * 7 + 4, none⟩ (.int .i32 x.prev)).setCell ⟨ba, n * 7 + 5, none⟩ (.int .i32 x.next)) ba (flat encS (st S n ⟨x, true⟩)) 201 := by
  have h := (((((hb.set (n * 7) (.int .u64 x.key)).set (n * 7 + 1) (.int .u64 x.val)).set (n * 7 + 2) (.int .i64 x.flag)).set (n * 7 + 3) (.int .i64 x.tag)).set (n * 7 + 4) (.int .i32 x.prev)).set (n * 7 + 5) (.int .i32 x.next)
  have e : sg S n = S[n] := by simp [gt, hn]
  rw [e] at ht
  have q0 := flat_set encS_len S n 0 hn (.int .u64 x.key) ⟨⟨x.key, S[n].nd.val, S[n].nd.flag, S[n].nd.tag, S[n].nd.prev, S[n].nd.next⟩, true⟩ (by omega) (by simp [encS, ht])
  have q1 := flat_set encS_len (S.set n ⟨⟨x.key, S[n].nd.val, S[n].nd.flag, S[n].nd.tag, S[n].nd.prev, S[n].nd.next⟩, true⟩) n 1 (by simpa using hn) (.int .u64 x.val) ⟨⟨x.key, x.val, S[n].nd.flag, S[n].nd.tag, S[n].nd.prev, S[n].nd.next⟩, true⟩ (by omega) (by simp [encS])
  have q2 := flat_set encS_len (S.set n ⟨⟨x.key, x.val, S[n].nd.flag, S[n].nd.tag, S[n].nd.prev, S[n].nd.next⟩, true⟩) n 2 (by simpa using hn) (.int .i64 x.flag) ⟨⟨x.key, x.val, x.flag, S[n].nd.tag, S[n].nd.prev, S[n].nd.next⟩, true⟩ (by omega) (by simp [encS])
  have q3 := flat_set encS_len (S.set n ⟨⟨x.key, x.val, x.flag, S[n].nd.tag, S[n].nd.prev, S[n].nd.next⟩, true⟩) n 3 (by simpa using hn) (.int .i64 x.tag) ⟨⟨x.key, x.val, x.flag, x.tag, S[n].nd.prev, S[n].nd.next⟩, true⟩ (by omega) (by simp [encS])
  have q4 := flat_set encS_len (S.set n ⟨⟨x.key, x.val, x.flag, x.tag, S[n].nd.prev, S[n].nd.next⟩, true⟩) n 4 (by simpa using hn) (.int .i32 x.prev) ⟨⟨x.key, x.val, x.flag, x.tag, x.prev, S[n].nd.next⟩, true⟩ (by omega) (by simp [encS])
  have q5 := flat_set encS_len (S.set n ⟨⟨x.key, x.val, x.flag, x.tag, x.prev, S[n].nd.next⟩, true⟩) n 5 (by simpa using hn) (.int .i32 x.next) ⟨x, true⟩ (by omega) (by simp [encS])
  simp only [List.set_set] at q1 q2 q3 q4 q5
  simp only [Nat.add_zero] at q0
  rw [q0, q1, q2, q3, q4, q5] at h
  simpa [st] using h
set_option maxHeartbeats 400000 in
theorem at_any (pa ba : Nat) (S : List Sl) (f nx lv : Value) (i : Int) (w : World) (hi : i ≤ 2147483647) (hn : S.length < 1000000)
    (ha : Blk w pa [.slice (some ⟨ba, 0, none⟩) S.length S.length, f, nx, lv] 189) (hb : Blk w ba (flat encS S) 201) :
    Calls Try.prog 170 #[.pointer (some ⟨pa, 0, none⟩), .int .i32 i] w fun e w' => e = .returned (.agg (encN (ndT S i)).toArray) ∧ Below w.heap.size w w' := by
  cases ht : isT S i with
  | false =>
    have HT := Go.Lib.hid ht
    clear ht
    go_enter Try.func170, Try.ntmps170
    go_wp2_with fail
    refine (is_any pa ba S f nx lv i _ hi hn (ha.alloc _) (hb.alloc _)).mono ?_
    rw [HT.out]
    rintro e w' ⟨rfl, rfl⟩
    go_wp2_with fail
    refine bodyPost_ret (v := .agg (encN Nd.z).toArray) (by simp [results, Try.results170, go_sem, encN, Nd.z]) rfl ⟨?_, (Below.refl _ _).alloc (Nat.le_refl _) _⟩
    simp [ndT, HT.out]
  | true =>
    obtain ⟨h0, h1, h2⟩ := isT_lt ht
    obtain ⟨n, rfl⟩ := Int.eq_ofNat_of_zero_le (Int.le_of_lt h0)
    have h0' : 0 < n := by omega
    have h1' : n < S.length := by omega
    have c0 := ha.cell 0
    have d0 := slot_cell hb h1' (j := 0) (by omega)
    have d1 := slot_cell hb h1' (j := 1) (by omega)
    have d2 := slot_cell hb h1' (j := 2) (by omega)
    have d3 := slot_cell hb h1' (j := 3) (by omega)
    have d4 := slot_cell hb h1' (j := 4) (by omega)
    have d5 := slot_cell hb h1' (j := 5) (by omega)
    have l1 := ha.lt
    have l2 := hb.lt
    have e : ndT S n = (sg S n).nd := by simp [ndT, ht]
    rw [e]
    generalize sg S n = x at *
    simp only [encS, List.getElem?_cons_zero, List.getElem?_cons_succ, Nat.add_zero] at c0 d0 d1 d2 d3 d4 d5
    have HT := Go.Lib.hid ht
    clear ht h2 e
    go_enter Try.func170, Try.ntmps170
    go_wp2_with fail
    refine (is_any pa ba S f nx lv n _ hi hn (ha.alloc _) (hb.alloc _)).mono ?_
    rw [HT.out]
    rintro e w' ⟨rfl, rfl⟩
    go_wp2_with fail
    refine bodyPost_ret (v := .agg (encN x.nd).toArray) (by simp [results, Try.results170, go_sem, encN]) rfl ⟨rfl, ?_⟩
    exact (Below.refl _ _).alloc (Nat.le_refl _) _
set_option maxHeartbeats 400000 in
theorem set_yes (pa ba : Nat) (S : List Sl) (f nx lv : Value) (i : Int) (x : Nd) (w : World) (hn : S.length < 1000000) (ht : isT S i = true)
    (ha : Blk w pa [.slice (some ⟨ba, 0, none⟩) S.length S.length, f, nx, lv] 189) (hb : Blk w ba (flat encS S) 201) :
    Calls Try.prog 217 #[.pointer (some ⟨pa, 0, none⟩), .int .i32 i, .agg (encN x).toArray] w fun e w' => e = .returned (.bool true) ∧ Fr (· = ba) w w' ∧ Blk w' ba (flat encS (st S i ⟨x, true⟩)) 201 := by
  obtain ⟨h0, h1, h2⟩ := isT_lt ht
  obtain ⟨n, rfl⟩ := Int.eq_ofNat_of_zero_le (Int.le_of_lt h0)
  have h0' : 0 < n := by omega
  have h1' : n < S.length := by omega
  have c0 := ha.cell 0
  have d0 := slot_cell hb h1' (j := 0) (by omega)
  have d1 := slot_cell hb h1' (j := 1) (by omega)
  have d2 := slot_cell hb h1' (j := 2) (by omega)
  have d3 := slot_cell hb h1' (j := 3) (by omega)
  have d4 := slot_cell hb h1' (j := 4) (by omega)
  have d5 := slot_cell hb h1' (j := 5) (by omega)
  have f0 := hb.frozen (n * 7)
  have f1 := hb.frozen (n * 7 + 1)
  have f2 := hb.frozen (n * 7 + 2)
  have f3 := hb.frozen (n * 7 + 3)
  have f4 := hb.frozen (n * 7 + 4)
  have f5 := hb.frozen (n * 7 + 5)
  have l1 := ha.lt
  have l2 := hb.lt
  simp only [encS, List.getElem?_cons_zero, List.getElem?_cons_succ, Nat.add_zero] at c0 d0 d1 d2 d3 d4 d5
  have HT := Go.Lib.hid ht
  clear ht h2
  obtain ⟨k, v, fl, tg, pv, nt⟩ := x
  simp only [encN]
  go_enter Try.func217, Try.ntmps217
  go_wp2_with fail
  refine (is_any pa ba S f nx lv n _ (by omega) hn (ha.alloc _) (hb.alloc _)).mono ?_
  rw [HT.out]
  rintro e w' ⟨rfl, rfl⟩
  go_wp2_with fail
  go_region
  all_goals (go_wp2; go_ret)
  all_goals
    refine ⟨rfl, ?_, ?_⟩
    · repeat (with_reducible first | exact Fr.refl _ _ | refine Fr.drew ?_ | refine Fr.alloc ?_ _ | refine Fr.setEq ?_ ?_ _)
      all_goals rfl
    · have hx := (isT_lt HT.out).2.2
      exact Blk.drew (Blk.alloc (slot_write hb h1' hx ⟨k, v, fl, tg, pv, nt⟩) _)
end Go.Proofs.Ytlakojncjldpbaa
