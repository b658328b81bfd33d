/- A list's join, list, Tag and the ends. -/
import Derived.Test.YtlakojncjldpbaaGIs
namespace Go.Proofs.Ytlakojncjldpbaa
open Go.RowKit Hop
set_option linter.unusedVariables false
set_option linter.unusedSimpArgs false
set_option maxRecDepth 100000
def up (S : List Sl) (i : Int) (f : Nd → Nd) : List Sl := st S i ⟨f (sg S i).nd, true⟩
theorem up_length (S : List Sl) (i : Int) (f : Nd → Nd) : (up S i f).length = S.length := st_length _ _ _
def nextTo (b : Int) (x : Nd) : Nd := { x with next := b }
def prevTo (a : Int) (x : Nd) : Nd := { x with prev := a }
def jS1 (S : List Sl) (a b : Int) : List Sl := if a = 0 then S else up S a (nextTo b)
def jS (S : List Sl) (a b : Int) : List Sl := if b = 0 then jS1 S a b else up (jS1 S a b) b (prevTo a)
def jL (x : Li) (a b : Int) : Li := ⟨if a = 0 then b else x.front, if b = 0 then a else x.back, x.many⟩
abbrev lg (l : List Li) (i : Int) : Li := gt l i Li.z
theorem isT_up {S : List Sl} {i j : Int} {f : Nd → Nd} (hi : isT S i = true) : isT (up S i f) j = isT S j := by
  obtain ⟨h0, h1, h2⟩ := isT_lt hi
  by_cases hj : 0 < j
  · have e : (sg (up S i f) j).taken = (sg S j).taken := by
      show (gt (st S i _) j Sl.z).taken = _
      rw [gt_st _ _ (by omega) h1 (by omega)]
      split
      · rename_i he; subst he; exact h2.symm
      · rfl
    simp only [isT, up_length, e]
  · have e : decide (0 < j) = false := by simpa using hj
    simp only [isT, e, Bool.false_and]
theorem list_cell {w : World} {bl : Nat} {ls : List Li} (hb : Blk w bl (flat encL ls) 208) {n j : Nat} (hn : n < ls.length) (hj : j < 3) : w.cell? ⟨bl, n * 3 + j, none⟩ = (encL (lg ls n))[j]? := by
  rw [hb.cell, flat_get encL_len ls n j hn hj]
  have e : lg ls n = ls[n] := by simp [gt, hn]
  rw [e]
theorem list_write {w : World} {bl : Nat} {ls : List Li} (hb : Blk w bl (flat encL ls) 208) {n j : Nat} (hn : n < ls.length) (hj : j < 3) (v : Value) (y : Li) (he : encL y = (encL (lg ls n)).set j v) :
    Blk (w.setCell ⟨bl, n * 3 + j, none⟩ v) bl (flat encL (st ls n y)) 208 := by
  have h := hb.set (n * 3 + j) v
  have e : lg ls n = ls[n] := by simp [gt, hn]
  rw [e] at he
  rw [flat_set encL_len ls n j hn v y hj he] at h
  simpa [st] using h
theorem withK (K : Nat) (h : ∀ (args : Array Value) (W : World), (callFunc K args).run Try.prog W = .ok (.enter K args) W) (args : Array Value) (W : World) : (callFunc K args).run Try.prog W = .ok (.enter K args) W := h args W
theorem kjoin1 (args : Array Value) (W : World) : (callFunc 232 args).run Try.prog W = .ok (.enter 232 args) W := by kernel_rfl
theorem kjoin2 (args : Array Value) (W : World) : (callFunc 233 args).run Try.prog W = .ok (.enter 233 args) W := by kernel_rfl
theorem klay1 (args : Array Value) (W : World) : (callFunc 238 args).run Try.prog W = .ok (.enter 238 args) W := by kernel_rfl
theorem kremove1 (args : Array Value) (W : World) : (callFunc 207 args).run Try.prog W = .ok (.enter 207 args) W := by kernel_rfl
/-- What the lists' calls lean on: where lists, arena, headers and slots lie. -/
structure LRep (w : World) (pl pa bl ba : Nat) (S : List Sl) (ls : List Li) (f nx li : Value) : Prop where
  hl : Blk w pl [P0 pa, S0 bl ls.length] 192
  ha : Blk w pa [S0 ba S.length, f, nx, li] 189
  bl : Blk w bl (flat encL ls) 208
  ba : Blk w ba (flat encS S) 201
section
variable {w w' : World} {pl pa bl ba : Nat} {S : List Sl} {ls : List Li} {f nx li : Value}
theorem LRep.keep (h : LRep w pl pa bl ba S ls f nx li) (hb : Below w.heap.size w w') : LRep w' pl pa bl ba S ls f nx li := ⟨h.hl.keep hb, h.ha.keep hb, h.bl.keep hb, h.ba.keep hb⟩
theorem LRep.alloc (h : LRep w pl pa bl ba S ls f nx li) (o : Obj) : LRep (w.alloc o) pl pa bl ba S ls f nx li := ⟨h.hl.alloc _, h.ha.alloc _, h.bl.alloc _, h.ba.alloc _⟩
theorem LRep.slots {S' : List Sl} (h : LRep w pl pa bl ba S ls f nx li) (hf : Fr (· = ba) w w') (hl : S'.length = S.length) (hb : Blk w' ba (flat encS S') 201) : LRep w' pl pa bl ba S' ls f nx li :=
  ⟨hf.blk (h.hl.ne h.ba (by decide)) h.hl, by rw [hl]; exact hf.blk (h.ha.ne h.ba (by decide)) h.ha, hf.blk (h.bl.ne h.ba (by decide)) h.bl, hb⟩
theorem LRep.lists {ls' : List Li} (h : LRep w pl pa bl ba S ls f nx li) (hf : Fr (· = bl) w w') (hl : ls'.length = ls.length) (hb : Blk w' bl (flat encL ls') 208) : LRep w' pl pa bl ba S ls' f nx li :=
  ⟨by rw [hl]; exact hf.blk (h.hl.ne h.bl (by decide)) h.hl, hf.blk (h.ha.ne h.bl (by decide)) h.ha, hb, hf.blk (h.ba.ne h.bl (by decide)) h.ba⟩
end
theorem join_front {w : World} {pl pa bl ba : Nat} {S : List Sl} {ls : List Li} {f nx li : Value} (h : LRep w pl pa bl ba S ls f nx li) {t : Nat} (ht : t < ls.length) (x : Int) :
    LRep (w.setCell ⟨bl, t * 3, none⟩ (.int .i32 x)) pl pa bl ba S (st ls t ⟨x, (lg ls t).back, (lg ls t).many⟩) f nx li :=
  h.lists ((Fr.refl (fun k => k = bl) _).setEq rfl _) (st_length _ _ _) (list_write h.bl ht (j := 0) (by omega) (.int .i32 x) ⟨x, (lg ls t).back, (lg ls t).many⟩ rfl)
theorem join_back {w : World} {pl pa bl ba : Nat} {S : List Sl} {ls : List Li} {f nx li : Value} (h : LRep w pl pa bl ba S ls f nx li) {t : Nat} (ht : t < ls.length) (x : Int) :
    LRep (w.setCell ⟨bl, t * 3 + 1, none⟩ (.int .i32 x)) pl pa bl ba S (st ls t ⟨(lg ls t).front, x, (lg ls t).many⟩) f nx li :=
  h.lists ((Fr.refl (fun k => k = bl) _).setEq rfl _) (st_length _ _ _) (list_write h.bl ht (j := 1) (by omega) (.int .i32 x) ⟨(lg ls t).front, x, (lg ls t).many⟩ rfl)
theorem join_many {w : World} {pl pa bl ba : Nat} {S : List Sl} {ls : List Li} {f nx li : Value} (h : LRep w pl pa bl ba S ls f nx li) {t : Nat} (ht : t < ls.length) (x : Int) :
    LRep (w.setCell ⟨bl, t * 3 + 2, none⟩ (.int .i64 x)) pl pa bl ba S (st ls t ⟨(lg ls t).front, (lg ls t).back, x⟩) f nx li :=
  h.lists ((Fr.refl (fun k => k = bl) _).setEq rfl _) (st_length _ _ _) (list_write h.bl ht (j := 2) (by omega) (.int .i64 x) ⟨(lg ls t).front, (lg ls t).back, x⟩ rfl)
theorem join_heads {w : World} {pl pa bl ba : Nat} {S : List Sl} {ls : List Li} {f nx li : Value} (h : LRep w pl pa bl ba S ls f nx li) {t : Nat} (ht : t < ls.length) (x y : Int) :
    LRep ((w.setCell ⟨bl, t * 3, none⟩ (.int .i32 x)).setCell ⟨bl, t * 3 + 1, none⟩ (.int .i32 y)) pl pa bl ba S (st ls t ⟨x, y, (lg ls t).many⟩) f nx li := by
  have l1 : t < (st ls t (⟨x, (lg ls t).back, (lg ls t).many⟩ : Li)).length := by rw [st_length]; exact ht
  have h1 := list_write h.bl ht (j := 0) (by omega) (.int .i32 x) ⟨x, (lg ls t).back, (lg ls t).many⟩ rfl
  have e1 : lg (st ls t (⟨x, (lg ls t).back, (lg ls t).many⟩ : Li)) t = ⟨x, (lg ls t).back, (lg ls t).many⟩ := gt_st_same _ _ (by omega) (by omega)
  have h2 := list_write h1 l1 (j := 1) (by omega) (.int .i32 y) ⟨x, y, (lg ls t).many⟩ (by rw [e1]; rfl)
  have e2 : st (st ls t (⟨x, (lg ls t).back, (lg ls t).many⟩ : Li)) t (⟨x, y, (lg ls t).many⟩ : Li) = st ls t ⟨x, y, (lg ls t).many⟩ := by simp [st]
  rw [e2] at h2
  exact h.lists (((Fr.refl (fun k => k = bl) _).setEq rfl _).setEq rfl _) (st_length _ _ _) h2
set_option maxHeartbeats 1600000 in
set_option maxRecDepth 100000 in
theorem join_any (pl pa bl ba : Nat) (S : List Sl) (ls : List Li) (f nx li : Value) (t : Nat) (a b : Int) (w : World) (hn : S.length < 1000000) (ht : t < ls.length)
    (h : LRep w pl pa bl ba S ls f nx li) (hA : a = 0 ∨ isT S a = true) (hB : b = 0 ∨ isT S b = true) :
    Calls Try.prog 205 #[P0 pl, .pointer (some ⟨bl, t * 3, none⟩), .int .i32 a, .int .i32 b] w fun e w' => e = .returned (.tuple #[]) ∧ Fr (fun k => k = ba ∨ k = bl) w w' ∧
      LRep w' pl pa bl ba (jS S a b) (st ls t (jL (lg ls t) a b)) f nx li := by
  have l0 := h.bl.lt
  have l1 := h.ba.lt
  have l2 := h.hl.lt
  have l3 := h.ha.lt
  have hne := h.bl.ne h.ba (by decide)
  have c0 := list_cell h.bl ht (j := 0) (by omega)
  have c1 := list_cell h.bl ht (j := 1) (by omega)
  have f0 := h.bl.frozen (t * 3)
  have f1 := h.bl.frozen (t * 3 + 1)
  simp only [encL, List.getElem?_cons_zero, List.getElem?_cons_succ, Nat.add_zero] at c0 c1
  by_cases ha : a = 0
  · subst ha
    clear hA
    by_cases hb : b = 0
    · subst hb
      clear hB
      go_enter Try.func205, Try.ntmps205
      go_wp2_with fail
      go_end0
      refine ⟨rfl, ?_, ?_⟩
      · repeat (with_reducible first | exact Fr.refl _ _ | refine Fr.alloc ?_ _ | refine Fr.setEq ?_ ?_ _)
        all_goals exact .inr rfl
      · exact LRep.alloc (LRep.alloc (join_heads h ht 0 0) _) _
    · have hb' : (b == 0) = false := by simp [hb]
      have hB' := hB.resolve_left hb
      have e : jS S 0 b = up S b (prevTo 0) := by simp [jS, jS1, hb]
      rw [e]
      have hb2 := Go.Lib.hid hb
      have HB := Go.Lib.hid hB'
      clear hB hB' hb e
      go_enter Try.func205, Try.ntmps205
      go_wp2_with fail
      have H2 := ((join_front h ht b).alloc (.cells #[.int .i32 0] 21)).alloc (.cells #[.int .i32 b] 21)
      have Q := (Blk.new0 (w.setCell ⟨bl, t * 3, none⟩ (.int .i32 b)) [Value.int .i32 0] 21).alloc (.cells #[.int .i32 b] 21)
      rw [World.size_setCell] at Q
      refine (with_yes pl pa ba S _ f nx li b _ hn HB.out 233 _ (prevTo 0) kjoin2 (join2_turns w.heap.size 0 _ Q) H2.hl H2.ha H2.ba).mono ?_
      rintro e w1 ⟨rfl, hf1, hb1⟩
      go_wp2_with fail
      go_end0
      refine ⟨rfl, ?_, ?_⟩
      · refine Fr.trans (own' := fun k => k = ba) ?_ hf1 (fun k hk => .inl (.inl hk))
        repeat (with_reducible first | exact Fr.refl _ _ | refine Fr.alloc ?_ _ | refine Fr.setEq ?_ ?_ _)
        all_goals exact .inr rfl
      · have q := H2.slots hf1 (up_length S b (prevTo 0)) hb1
        simpa [jL, hb2.out] using q
  · have ha' : (a == 0) = false := by simp [ha]
    have hA' := hA.resolve_left ha
    have ha2 := Go.Lib.hid ha
    have HA := Go.Lib.hid hA'
    have H1 := (h.alloc (.cells #[.int .i32 a] 21)).alloc (.cells #[.int .i32 b] 21)
    have Qb := Blk.new1 w (.cells #[.int .i32 a] 21) [Value.int .i32 b] 21
    have Qa := (Blk.new0 w [Value.int .i32 a] 21).alloc (.cells #[.int .i32 b] 21)
    have na : w.heap.size ≠ ba := by omega
    have nb : w.heap.size + 1 ≠ ba := by omega
    have hl1 : S.length = (up S a (nextTo b)).length := (up_length _ _ _).symm
    by_cases hb : b = 0
    · subst hb
      have e : jS S a 0 = up S a (nextTo 0) := by simp [jS, jS1, ha]
      rw [e]
      clear hA hA' hB ha e
      go_enter Try.func205, Try.ntmps205
      go_wp2_with fail
      refine (with_yes pl pa ba S _ f nx li a _ hn HA.out 232 _ (nextTo 0) kjoin1 (join1_turns (w.heap.size + 1) 0 _ Qb) H1.hl H1.ha H1.ba).mono ?_
      rintro e w1 ⟨rfl, hf1, hb1⟩
      have z1 := hf1.size
      simp only [World.size_alloc] at z1
      have H2 := H1.slots hf1 (up_length S a (nextTo 0)) hb1
      have g0 := (hf1.blk na Qa).cell 0
      have g1 := (hf1.blk nb Qb).cell 0
      have c1' := list_cell H2.bl ht (j := 1) (by omega)
      have f1' := H2.bl.frozen (t * 3 + 1)
      have lbl := H2.bl.lt
      simp only [encL, List.getElem?_cons_zero, List.getElem?_cons_succ] at g0 g1 c1'
      have HF1 := Go.Lib.hid hf1
      have HB1 := Go.Lib.hid hb1
      clear hf1 hb1
      go_wp2_with fail
      go_end0
      refine ⟨rfl, ?_, ?_⟩
      · refine Fr.setEq (Fr.trans (own' := fun k => k = ba) ((Fr.refl _ _).alloc _ |>.alloc _) HF1.out (fun k hk => .inl (.inl hk))) (.inr rfl) _
      · have q := join_back H2 ht a
        simpa [jL, ha2.out] using q
    · have hb' : (b == 0) = false := by simp [hb]
      have hB' : isT (up S a (nextTo b)) b = true := by rw [isT_up hA']; exact hB.resolve_left hb
      have e : jS S a b = up (up S a (nextTo b)) b (prevTo a) := by simp [jS, jS1, ha, hb]
      rw [e]
      have hb2 := Go.Lib.hid hb
      have HB := Go.Lib.hid hB'
      clear hA hA' hB hB' ha hb e
      go_enter Try.func205, Try.ntmps205
      go_wp2_with fail
      refine (with_yes pl pa ba S _ f nx li a _ hn HA.out 232 _ (nextTo b) kjoin1 (join1_turns (w.heap.size + 1) b _ Qb) H1.hl H1.ha H1.ba).mono ?_
      rintro e w1 ⟨rfl, hf1, hb1⟩
      have z1 := hf1.size
      simp only [World.size_alloc] at z1
      have H2 := H1.slots hf1 (up_length S a (nextTo b)) hb1
      have Qa' := hf1.blk na Qa
      have g0 := Qa'.cell 0
      have g1 := (hf1.blk nb Qb).cell 0
      simp only [List.getElem?_cons_zero] at g0 g1
      have HF1 := Go.Lib.hid hf1
      have HB1 := Go.Lib.hid hb1
      clear hf1 hb1
      go_wp2_with fail
      refine (with_yes pl pa ba _ _ f nx li b _ (by rw [up_length]; exact hn) HB.out 233 _ (prevTo a) kjoin2 (join2_turns w.heap.size a _ Qa') H2.hl H2.ha H2.ba).mono ?_
      rintro e w2 ⟨rfl, hf2, hb2'⟩
      go_wp2_with fail
      go_end0
      refine ⟨rfl, ?_, ?_⟩
      · exact Fr.trans (own' := fun k => k = ba) (Fr.trans (own' := fun k => k = ba) ((Fr.refl _ _).alloc _ |>.alloc _) HF1.out (fun k hk => .inl (.inl hk))) hf2 (fun k hk => .inl (.inl hk))
      · have q := H2.slots hf2 (up_length _ b (prevTo a)) hb2'
        have q2 : st ls t (jL (lg ls t) a b) = ls := by
          have e2 : jL (lg ls t) a b = lg ls t := by simp [jL, ha2.out, hb2.out]
          rw [e2]
          simp [st, gt, ht]
        rw [q2]
        exact q
end Go.Proofs.Ytlakojncjldpbaa

namespace Go.Proofs.Ytlakojncjldpbaa
open Go.RowKit Hop
set_option linter.unusedVariables false
set_option linter.unusedSimpArgs false
set_option maxRecDepth 100000
theorem node_tag (k v fl tg pv nt : Int) (w : World) : (Instr.field 164 (.agg #[.int .u64 k, .int .u64 v, .int .i64 fl, .int .i64 tg, .int .i32 pv, .int .i32 nt]) 3).run Try.prog w = .ok (.int .i64 tg) w := by kernel_rfl
theorem node_next (k v fl tg pv nt : Int) (w : World) : (Instr.field 164 (.agg #[.int .u64 k, .int .u64 v, .int .i64 fl, .int .i64 tg, .int .i32 pv, .int .i32 nt]) 5).run Try.prog w = .ok (.int .i32 nt) w := by kernel_rfl
theorem node_key (k v fl tg pv nt : Int) (w : World) : (Instr.field 164 (.agg #[.int .u64 k, .int .u64 v, .int .i64 fl, .int .i64 tg, .int .i32 pv, .int .i32 nt]) 0).run Try.prog w = .ok (.int .u64 k) w := by kernel_rfl
theorem node_val (k v fl tg pv nt : Int) (w : World) : (Instr.field 164 (.agg #[.int .u64 k, .int .u64 v, .int .i64 fl, .int .i64 tg, .int .i32 pv, .int .i32 nt]) 1).run Try.prog w = .ok (.int .u64 v) w := by kernel_rfl
theorem node_flag (k v fl tg pv nt : Int) (w : World) : (Instr.field 164 (.agg #[.int .u64 k, .int .u64 v, .int .i64 fl, .int .i64 tg, .int .i32 pv, .int .i32 nt]) 2).run Try.prog w = .ok (.int .i64 fl) w := by kernel_rfl
section
variable (pl pa bl ba : Nat) (S : List Sl) (ls : List Li) (f nx li : Value)
set_option maxHeartbeats 400000 in
theorem list_yes (t : Nat) (w : World) (hn : ls.length < 1000) (ht : t < ls.length) (h : LRep w pl pa bl ba S ls f nx li) :
    Calls Try.prog 204 #[P0 pl, .int .i64 t] w fun e w' => e = .returned (.pointer (some ⟨bl, t * 3, none⟩)) ∧ w = w' := by
  have c1 := h.hl.cell 1
  simp only [List.getElem?_cons_zero, List.getElem?_cons_succ] at c1
  go_enter Try.func204, Try.ntmps204
  go_wp2_with fail
  go_ret
  exact ⟨rfl, rfl⟩
set_option maxHeartbeats 400000 in
theorem list_no (t : Int) (w : World) (hn : ls.length < 1000) (ht : t < 0 ∨ ls.length ≤ t) (h : LRep w pl pa bl ba S ls f nx li) :
    Calls Try.prog 204 #[P0 pl, .int .i64 t] w fun e w' => e = .returned (.pointer none) ∧ w = w' := by
  have c1 := h.hl.cell 1
  simp only [List.getElem?_cons_zero, List.getElem?_cons_succ] at c1
  rcases ht with ht | ht
  · go_enter Try.func204, Try.ntmps204
    go_wp2_with fail
    go_ret
    exact ⟨rfl, rfl⟩
  · have h0 : 0 ≤ t := by omega
    go_enter Try.func204, Try.ntmps204
    go_wp2_with fail
    go_ret
    exact ⟨rfl, rfl⟩
set_option maxHeartbeats 400000 in
theorem tag_any (i : Int) (w : World) (hi : i ≤ 2147483647) (hn : S.length < 1000000) (h : LRep w pl pa bl ba S ls f nx li) (hb : 0 ≤ (ndT S i).tag ∧ (ndT S i).tag ≤ 100) :
    Calls Try.prog 174 #[P0 pl, .int .i32 i] w fun e w' => e = .returned (.int .i64 ((ndT S i).tag - 1)) ∧ Below w.heap.size w w' := by
  have c0 := h.hl.cell 0
  simp only [List.getElem?_cons_zero] at c0
  have nf := node_tag
  go_enter Try.func174, Try.ntmps174
  go_wp2_with fail
  refine (at_any pa ba S f nx li i _ hi hn h.ha h.ba).mono ?_
  simp only [encN]
  rintro e w1 ⟨rfl, hb1⟩
  go_wp2_with fail
  go_ret
  exact ⟨rfl, hb1⟩
set_option maxHeartbeats 400000 in
theorem front_yes (t : Nat) (w : World) (hn : ls.length < 1000) (ht : t < ls.length) (h : LRep w pl pa bl ba S ls f nx li) :
    Calls Try.prog 220 #[P0 pl, .int .i64 t] w fun e w' => e = .returned (.int .i32 (lg ls t).front) ∧ w = w' := by
  have c1 := list_cell h.bl ht (j := 0) (by omega)
  simp only [encL, List.getElem?_cons_zero, List.getElem?_cons_succ, Nat.add_zero] at c1
  go_enter Try.func220, Try.ntmps220
  go_wp2_with fail
  refine (list_yes pl pa bl ba S ls f nx li t _ hn ht h).mono ?_
  rintro e w1 ⟨rfl, rfl⟩
  go_wp2_with fail
  go_ret
  exact ⟨rfl, rfl⟩
set_option maxHeartbeats 400000 in
theorem back_yes (t : Nat) (w : World) (hn : ls.length < 1000) (ht : t < ls.length) (h : LRep w pl pa bl ba S ls f nx li) :
    Calls Try.prog 215 #[P0 pl, .int .i64 t] w fun e w' => e = .returned (.int .i32 (lg ls t).back) ∧ w = w' := by
  have c1 := list_cell h.bl ht (j := 1) (by omega)
  simp only [encL, List.getElem?_cons_zero, List.getElem?_cons_succ] at c1
  go_enter Try.func215, Try.ntmps215
  go_wp2_with fail
  refine (list_yes pl pa bl ba S ls f nx li t _ hn ht h).mono ?_
  rintro e w1 ⟨rfl, rfl⟩
  go_wp2_with fail
  go_ret
  exact ⟨rfl, rfl⟩
set_option maxHeartbeats 400000 in
theorem after_yes (i : Int) (w : World) (hi : i ≤ 2147483647) (hn : S.length < 1000000) (h : LRep w pl pa bl ba S ls f nx li) (hb : 1 ≤ (ndT S i).tag ∧ (ndT S i).tag ≤ 100) :
    Calls Try.prog 231 #[P0 pl, .int .i32 i] w fun e w' => e = .returned (.int .i32 (ndT S i).next) ∧ Below w.heap.size w w' := by
  have c0 := h.hl.cell 0
  simp only [List.getElem?_cons_zero] at c0
  have t0 : (((ndT S i).tag - 1 : Int) == -1) = false := by
    rw [beq_eq_false_iff_ne]; omega
  have nf := node_next
  go_enter Try.func231, Try.ntmps231
  go_wp2_with fail
  refine (tag_any pl pa bl ba S ls f nx li i _ hi hn h (by omega)).mono ?_
  rintro e w1 ⟨rfl, hb1⟩
  have h1 := h.keep hb1
  have c1 := h1.hl.cell 0
  simp only [List.getElem?_cons_zero] at c1
  have HB1 := Go.Lib.hid hb1
  clear hb1 c0
  go_wp2_with fail
  refine (at_any pa ba S f nx li i _ hi hn h1.ha h1.ba).mono ?_
  simp only [encN]
  rintro e w2 ⟨rfl, hb2⟩
  go_wp2_with fail
  go_ret
  exact ⟨rfl, HB1.out.trans (hb2.mono HB1.out.size)⟩
end
end Go.Proofs.Ytlakojncjldpbaa

namespace Go.Proofs.Ytlakojncjldpbaa
open Go.RowKit Hop
set_option linter.unusedVariables false
set_option linter.unusedSimpArgs false
set_option maxRecDepth 100000
def layN (t p n : Int) (x : Nd) : Nd := { x with tag := t + 1, prev := p, next := n }
def outN (x : Nd) : Nd := { x with tag := 0, prev := 0, next := 0 }
def layS (S : List Sl) (t p i n : Int) : List Sl := jS (jS (up S i (layN t p n)) p i) i n
def more (x : Li) (d : Int) : Li := ⟨x.front, x.back, x.many + d⟩
def layL (x : Li) (p i n : Int) : Li := more (jL (jL x p i) i n) 1
def outS (S : List Sl) (i : Int) : List Sl := up (jS S (ndT S i).prev (ndT S i).next) i outN
def outL (S : List Sl) (x : Li) (i : Int) : Li := more (jL x (ndT S i).prev (ndT S i).next) (-1)
theorem jS_length (S : List Sl) (a b : Int) : (jS S a b).length = S.length := by
  unfold jS jS1
  (repeat' split) <;> simp [up_length]
theorem jS_isT {S : List Sl} {a b : Int} (ha : a = 0 ∨ isT S a = true) (hb : b = 0 ∨ isT S b = true) (j : Int) : isT (jS S a b) j = isT S j := by
  have h1 : ∀ j, isT (jS1 S a b) j = isT S j := by
    intro j
    unfold jS1
    split
    · rfl
    · rename_i h; exact isT_up (ha.resolve_left h)
  unfold jS
  split
  · exact h1 j
  · rename_i h
    rw [isT_up (by rw [h1]; exact hb.resolve_left h)]
    exact h1 j
section
variable (pl pa bl ba : Nat) (S : List Sl) (ls : List Li) (f nx li : Value)
set_option maxHeartbeats 1600000 in
theorem lay_yes (t : Nat) (p i n : Int) (w : World) (hn : S.length < 1000000) (hls : ls.length < 100) (ht : t < ls.length) (h : LRep w pl pa bl ba S ls f nx li)
    (hi : isT S i = true) (hi0 : (ndT S i).tag = 0) (hp : p = 0 ∨ isT S p = true) (hx : n = 0 ∨ isT S n = true) (hm : 0 ≤ (lg ls t).many ∧ (lg ls t).many < 1000000) :
    Calls Try.prog 219 #[P0 pl, .int .i64 t, .int .i32 p, .int .i32 i, .int .i32 n] w fun e w' => e = .returned (.bool true) ∧ Fr (fun k => k = ba ∨ k = bl) w w' ∧
      LRep w' pl pa bl ba (layS S t p i n) (st ls t (layL (lg ls t) p i n)) f nx li := by
  have l0 := h.bl.lt
  have l1 := h.ba.lt
  have l2 := h.hl.lt
  have l3 := h.ha.lt
  have hlt := isT_lt hi
  have hi1 : i ≠ 0 := by omega
  have hile : i ≤ 2147483647 := by omega
  have H0 := ((h.alloc (.cells #[.int .i64 t] 3)).alloc (.cells #[.int .i32 p] 21)).alloc (.cells #[.int .i32 n] 21)
  have Qt := ((Blk.new0 w [Value.int .i64 t] 3).alloc (.cells #[.int .i32 p] 21)).alloc (.cells #[.int .i32 n] 21)
  have Qp := (Blk.new1 w (.cells #[.int .i64 t] 3) [Value.int .i32 p] 21).alloc (.cells #[.int .i32 n] 21)
  have Qn := Blk.new2 w (.cells #[.int .i64 t] 3) (.cells #[.int .i32 p] 21) [Value.int .i32 n] 21
  have hpS : ∀ j, isT (up S i (layN t p n)) j = isT S j := fun j => isT_up hi
  have hp1 : p = 0 ∨ isT (up S i (layN t p n)) p = true := by rw [hpS]; exact hp
  have hi2 : i = 0 ∨ isT (up S i (layN t p n)) i = true := by rw [hpS]; exact .inr hi
  have hi3 : i = 0 ∨ isT (jS (up S i (layN t p n)) p i) i = true := by rw [jS_isT hp1 hi2]; exact hi2
  have hx3 : n = 0 ∨ isT (jS (up S i (layN t p n)) p i) n = true := by rw [jS_isT hp1 hi2, hpS]; exact hx
  have F0 : Fr (fun k => k = ba ∨ k = bl) w _ := (((Fr.refl _ w).alloc (.cells #[.int .i64 t] 3)).alloc (.cells #[.int .i32 p] 21)).alloc (.cells #[.int .i32 n] 21)
  have HI := Go.Lib.hid hi
  have HI0 := Go.Lib.hid hi0
  have HP1 := Go.Lib.hid hp1
  have HI2 := Go.Lib.hid hi2
  have HI3 := Go.Lib.hid hi3
  have HX3 := Go.Lib.hid hx3
  have HX := Go.Lib.hid hx
  have HP := Go.Lib.hid hp
  clear hi hi0 hp1 hi2 hi3 hx3 hx hp hpS hlt
  go_enter Try.func219, Try.ntmps219
  go_wp2_with fail
  refine (list_yes pl pa bl ba S ls f nx li t _ (by omega) ht H0).mono ?_
  rintro e w0 ⟨rfl, hw⟩
  have z0 : w.heap.size + 1 + 1 + 1 = w0.heap.size := by rw [← hw]; simp
  rw [hw] at H0 Qt Qp Qn F0
  have c0 := H0.hl.cell 0
  simp only [List.getElem?_cons_zero] at c0
  have Z0 := Go.Lib.hid z0
  clear hw z0
  go_wp2_with fail
  refine (is_any pa ba S f nx li i _ hile hn H0.ha H0.ba).mono ?_
  rw [HI.out]
  rintro e w' ⟨rfl, rfl⟩
  go_wp2_with fail
  refine (tag_any pl pa bl ba S ls f nx li i _ hile hn H0 (by rw [HI0.out]; omega)).mono ?_
  rw [HI0.out]
  rintro e w1 ⟨rfl, hb1⟩
  have H1 := H0.keep hb1
  have Qt1 := Qt.keep hb1
  have Qp1 := Qp.keep hb1
  have Qn1 := Qn.keep hb1
  have z1 : w.heap.size + 1 + 1 + 1 ≤ w1.heap.size := by have := hb1.size; rw [Z0.out]; exact this
  have F1 : Fr (fun k => k = ba ∨ k = bl) w w1 := F0.and_below hb1
  have HB1 := Go.Lib.hid hb1
  clear hb1 H0 Qt Qp Qn c0 F0
  go_wp2_with fail
  refine (with_yes pl pa ba S _ f nx li i _ hn HI.out 238 _ (layN t p n) klay1 (lay1_turns w.heap.size (w.heap.size + 1) (w.heap.size + 1 + 1) t p n _ (by omega) (by omega) (by omega) (by omega) (by omega) Qt1 Qp1 Qn1) H1.hl H1.ha H1.ba).mono ?_
  rintro e w2 ⟨rfl, hf2, hb2⟩
  have H2 := H1.slots hf2 (up_length S i (layN t p n)) hb2
  have F2 := F1.trans (own' := fun k => k = ba) hf2 (fun k hk => .inl (.inl hk))
  have n0 : w.heap.size ≠ ba := by omega
  have n1 : w.heap.size + 1 ≠ ba := by omega
  have n2 : w.heap.size + 1 + 1 ≠ ba := by omega
  have Qp2 := hf2.blk n1 Qp1
  have Qn2 := hf2.blk n2 Qn1
  have c0 := Qp2.cell 0
  simp only [List.getElem?_cons_zero] at c0
  clear hf2 hb2 H1 Qt1 Qp1 Qn1 F1 n0
  go_wp2_with fail
  refine (join_any pl pa bl ba _ ls f nx li t p i _ (by rw [up_length]; exact hn) ht H2 HP1.out HI2.out).mono ?_
  rintro e w3 ⟨rfl, hf3, H3⟩
  have F3 := F2.trans hf3 (fun k hk => .inl hk)
  have n3 : ¬ (w.heap.size + 1 + 1 = ba ∨ w.heap.size + 1 + 1 = bl) := by omega
  have c1 := (hf3.blk n3 Qn2).cell 0
  simp only [List.getElem?_cons_zero] at c1
  clear hf3 H2 c0 F2 Qp2 Qn2 n3 n2 n1
  go_wp2_with fail
  refine (join_any pl pa bl ba _ _ f nx li t i n _ (by rw [jS_length, up_length]; exact hn) (by rw [st_length]; exact ht) H3 HI3.out HX3.out).mono ?_
  rintro e w4 ⟨rfl, hf4, H4⟩
  have F4 := F3.trans hf4 (fun k hk => .inl hk)
  have e1 : lg (st ls t (jL (lg ls t) p i)) t = jL (lg ls t) p i := gt_st_same _ _ (by omega) (by omega)
  have e2 : ∀ y : Li, st (st ls t (jL (lg ls t) p i)) t y = st ls t y := by intro y; simp [st]
  rw [e1, e2] at H4
  have htl : t < (st ls t (jL (jL (lg ls t) p i) i n)).length := by rw [st_length]; exact ht
  have d2 := list_cell H4.bl htl (j := 2) (by omega)
  have g2 := H4.bl.frozen (t * 3 + 2)
  have e3 : lg (st ls t (jL (jL (lg ls t) p i) i n)) t = jL (jL (lg ls t) p i) i n := gt_st_same _ _ (by omega) (by omega)
  rw [e3] at d2
  simp only [encL, List.getElem?_cons_zero, List.getElem?_cons_succ, jL] at d2
  have H5 := join_many H4 htl ((lg ls t).many + 1)
  have e4 : ∀ y : Li, st (st ls t (jL (jL (lg ls t) p i) i n)) t y = st ls t y := by intro y; simp [st]
  rw [e3, e4] at H5
  have F5 := F4.setEq (b := bl) (o := t * 3 + 2) (.inr rfl) (.int .i64 ((lg ls t).many + 1))
  clear hf4 H4 H3 F4 F3 c1 e1 e2 e3 e4
  obtain ⟨hm0, hm1⟩ := hm
  go_wp2_with fail
  go_ret
  exact ⟨rfl, F5, H5⟩
end
end Go.Proofs.Ytlakojncjldpbaa

namespace Go.Proofs.Ytlakojncjldpbaa
open Go.RowKit Hop
set_option linter.unusedVariables false
set_option linter.unusedSimpArgs false
set_option maxRecDepth 100000
section
variable (pl pa bl ba : Nat) (S : List Sl) (ls : List Li) (f nx li : Value)
set_option maxHeartbeats 1600000 in
theorem remove_yes (t : Nat) (i : Int) (w : World) (hn : S.length < 1000000) (hls : ls.length < 100) (ht : t < ls.length) (h : LRep w pl pa bl ba S ls f nx li)
    (hi : isT S i = true) (hi0 : (ndT S i).tag = t + 1) (hp : (ndT S i).prev = 0 ∨ isT S (ndT S i).prev = true) (hx : (ndT S i).next = 0 ∨ isT S (ndT S i).next = true) (hm : 0 < (lg ls t).many ∧ (lg ls t).many < 1000000) :
    Calls Try.prog 176 #[P0 pl, .int .i32 i] w fun e w' => e = .returned (.bool true) ∧ Fr (fun k => k = ba ∨ k = bl) w w' ∧
      LRep w' pl pa bl ba (outS S i) (st ls t (outL S (lg ls t) i)) f nx li := by
  have hlt := isT_lt hi
  have hi1 : i ≠ 0 := by omega
  have hile : i ≤ 2147483647 := by omega
  have hj : isT (jS S (ndT S i).prev (ndT S i).next) i = true := by rw [jS_isT hp hx]; exact hi
  have e0 : outS S i = up (jS S (ndT S i).prev (ndT S i).next) i outN := rfl
  have e00 : outL S (lg ls t) i = more (jL (lg ls t) (ndT S i).prev (ndT S i).next) (-1) := rfl
  rw [e0, e00]
  have HI := Go.Lib.hid hi
  have HI0 := Go.Lib.hid hi0
  have HX := Go.Lib.hid hx
  have HP := Go.Lib.hid hp
  have HJ := Go.Lib.hid hj
  have AT : ∀ w, LRep w pl pa bl ba S ls f nx li → Calls Try.prog 170 #[P0 pa, .int .i32 i] w fun e w' => e = .returned (.agg (encN (ndT S i)).toArray) ∧ Below w.heap.size w w' := fun w h => at_any pa ba S f nx li i w hile hn h.ha h.ba
  have TG : ∀ w, LRep w pl pa bl ba S ls f nx li → Calls Try.prog 174 #[P0 pl, .int .i32 i] w fun e w' => e = .returned (.int .i64 t) ∧ Below w.heap.size w w' := by
    intro w h
    refine (tag_any pl pa bl ba S ls f nx li i w hile hn h (by omega)).mono ?_
    rw [hi0]
    rintro e w' ⟨rfl, hb⟩
    exact ⟨by congr 2; omega, hb⟩
  have HAT := Go.Lib.hid AT
  have HTG := Go.Lib.hid TG
  clear AT TG hi hi0 hp hx hlt hj e0 e00
  generalize ndT S i = x at *
  obtain ⟨k, v, fl, tg, pv, nt⟩ := x
  simp only at HP HX HJ ⊢
  go_enter Try.func176, Try.ntmps176
  go_wp2_with fail
  refine (HTG.out _ h).mono ?_
  rintro e w1 ⟨rfl, hb1⟩
  have H1 := h.keep hb1
  have F1 : Fr (fun k => k = ba ∨ k = bl) w w1 := Fr.of_below hb1
  have c0 := H1.hl.cell 0
  simp only [List.getElem?_cons_zero] at c0
  have HB1 := Go.Lib.hid hb1
  clear hb1
  go_wp2_with fail
  refine (list_yes pl pa bl ba S ls f nx li t _ (by omega) ht H1).mono ?_
  rintro e w' ⟨rfl, rfl⟩
  go_wp2_with fail
  refine (HAT.out _ H1).mono ?_
  simp only [encN]
  rintro e w2 ⟨rfl, hb2⟩
  have H2 := H1.keep hb2
  have F2 := F1.and_below hb2
  have H2b := H2.alloc (.cells #[.int .u64 k, .int .u64 v, .int .i64 fl, .int .i64 tg, .int .i32 pv, .int .i32 nt] 164)
  have F2b := F2.alloc (.cells #[.int .u64 k, .int .u64 v, .int .i64 fl, .int .i64 tg, .int .i32 pv, .int .i32 nt] 164)
  clear hb2 H1 F1 c0
  go_wp2_with fail
  refine (join_any pl pa bl ba S ls f nx li t pv nt _ hn ht H2b HP.out HX.out).mono ?_
  rintro e w3 ⟨rfl, hf3, H3⟩
  have F3 := F2b.trans hf3 (fun k hk => .inl hk)
  have htl : t < (st ls t (jL (lg ls t) pv nt)).length := by rw [st_length]; exact ht
  have d2 := list_cell H3.bl htl (j := 2) (by omega)
  have g2 := H3.bl.frozen (t * 3 + 2)
  have e3 : lg (st ls t (jL (lg ls t) pv nt)) t = jL (lg ls t) pv nt := gt_st_same _ _ (by omega) (by omega)
  rw [e3] at d2
  simp only [encL, List.getElem?_cons_zero, List.getElem?_cons_succ, jL] at d2
  have H4 := join_many H3 htl ((lg ls t).many - 1)
  have e4 : ∀ y : Li, st (st ls t (jL (lg ls t) pv nt)) t y = st ls t y := by intro y; simp [st]
  rw [e3, e4] at H4
  have F4 := F3.setEq (b := bl) (o := t * 3 + 2) (.inr rfl) (.int .i64 ((lg ls t).many - 1))
  clear hf3 H3 F3 H2 H2b F2 F2b e3 e4
  obtain ⟨hm0, hm1⟩ := hm
  go_wp2_with fail
  refine (with_yes pl pa ba _ _ f nx li i _ (by rw [jS_length]; exact hn) HJ.out 207 #[] outN kremove1 (remove1_turns _) H4.hl H4.ha H4.ba).mono ?_
  rintro e w5 ⟨rfl, hf5, hb5⟩
  have H5 := H4.slots hf5 (up_length _ i outN) hb5
  have F5 := F4.trans (own' := fun k => k = ba) hf5 (fun k hk => .inl (.inl hk))
  clear hf5 hb5 H4 F4
  go_wp2_with fail
  go_ret
  exact ⟨rfl, F5, H5⟩
set_option maxHeartbeats 800000 in
theorem pushfront_yes (t : Nat) (i : Int) (w : World) (hn : S.length < 1000000) (hls : ls.length < 100) (ht : t < ls.length) (h : LRep w pl pa bl ba S ls f nx li)
    (hi : isT S i = true) (hi0 : (ndT S i).tag = 0) (hx : (lg ls t).front = 0 ∨ isT S (lg ls t).front = true) (hm : 0 ≤ (lg ls t).many ∧ (lg ls t).many < 1000000) :
    Calls Try.prog 182 #[P0 pl, .int .i64 t, .int .i32 i] w fun e w' => e = .returned (.bool true) ∧ Fr (fun k => k = ba ∨ k = bl) w w' ∧
      LRep w' pl pa bl ba (layS S t 0 i (lg ls t).front) (st ls t (layL (lg ls t) 0 i (lg ls t).front)) f nx li := by
  have HI := Go.Lib.hid hi
  have HI0 := Go.Lib.hid hi0
  have HX := Go.Lib.hid hx
  have HM := Go.Lib.hid hm
  clear hi hi0 hx hm
  go_enter Try.func182, Try.ntmps182
  go_wp2_with fail
  refine (front_yes pl pa bl ba S ls f nx li t _ (by omega) ht h).mono ?_
  rintro e w' ⟨rfl, rfl⟩
  go_wp2_with fail
  refine (lay_yes pl pa bl ba S ls f nx li t 0 i (lg ls t).front _ hn hls ht h HI.out HI0.out (.inl rfl) HX.out HM.out).mono ?_
  rintro e w1 ⟨rfl, hf1, H1⟩
  go_wp2_with fail
  go_ret
  exact ⟨rfl, hf1, H1⟩
end
end Go.Proofs.Ytlakojncjldpbaa

namespace Go.Proofs.Ytlakojncjldpbaa
open Go.RowKit Hop
set_option linter.unusedVariables false
set_option linter.unusedSimpArgs false
set_option maxRecDepth 100000
section
variable (pl pa bl ba : Nat) (S : List Sl) (ls : List Li) (f nx li : Value)
set_option maxHeartbeats 400000 in
theorem llen_yes (t : Nat) (w : World) (hn : ls.length < 1000) (ht : t < ls.length) (h : LRep w pl pa bl ba S ls f nx li) :
    Calls Try.prog 186 #[P0 pl, .int .i64 t] w fun e w' => e = .returned (.int .i64 (lg ls t).many) ∧ w = w' := by
  have c1 := list_cell h.bl ht (j := 2) (by omega)
  simp only [encL, List.getElem?_cons_zero, List.getElem?_cons_succ] at c1
  go_enter Try.func186, Try.ntmps186
  go_wp2_with fail
  refine (list_yes pl pa bl ba S ls f nx li t _ hn ht h).mono ?_
  rintro e w1 ⟨rfl, rfl⟩
  go_wp2_with fail
  go_ret
  exact ⟨rfl, rfl⟩
end
end Go.Proofs.Ytlakojncjldpbaa
