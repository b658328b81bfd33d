/- A list's join, list, Tag and the ends. -/
import Derived.Test.YtlakojncjldpbaaClos
namespace Go.Proofs.Ytlakojncjldpbaa
open Go.RowKit Hop
set_option linter.unusedVariables false
set_option linter.unusedSimpArgs false
set_option maxRecDepth 100000
def up (S : List Sl) (i : Int) (f : Nd → Nd) : List Sl := st S i ⟨f (sg S i).nd, true⟩
theorem up_length (S : List Sl) (i : Int) (f : Nd → Nd) : (up S i f).length = S.length := st_length _ _ _
def nextTo (b : Int) (x : Nd) : Nd := { x with next := b }
def prevTo (a : Int) (x : Nd) : Nd := { x with prev := a }
def jS1 (S : List Sl) (a b : Int) : List Sl := if a = 0 then S else up S a (nextTo b)
def jS (S : List Sl) (a b : Int) : List Sl := if b = 0 then jS1 S a b else up (jS1 S a b) b (prevTo a)
def jL (x : Li) (a b : Int) : Li := ⟨if a = 0 then b else x.front, if b = 0 then a else x.back, x.many⟩
abbrev lg (l : List Li) (i : Int) : Li := gt l i Li.z
theorem isT_up {S : List Sl} {i j : Int} {f : Nd → Nd} (hi : isT S i = true) : isT (up S i f) j = isT S j := by
  obtain ⟨h0, h1, h2⟩ := isT_lt hi
  by_cases hj : 0 < j
  · have e : (sg (up S i f) j).taken = (sg S j).taken := by
      show (gt (st S i _) j Sl.z).taken = _
      rw [gt_st _ _ (by omega) h1 (by omega)]
      split
      · rename_i he; subst he; exact h2.symm
      · rfl
    simp only [isT, up_length, e]
  · have e : decide (0 < j) = false := by simpa using hj
    simp only [isT, e, Bool.false_and]
theorem list_cell {w : World} {bl : Nat} {ls : List Li} (hb : Blk w bl (flat encL ls) 208) {n j : Nat} (hn : n < ls.length) (hj : j < 3) : w.cell? ⟨bl, n * 3 + j, none⟩ = (encL (lg ls n))[j]? := by
  rw [hb.cell, flat_get encL_len ls n j hn hj]
  have e : lg ls n = ls[n] := by simp [gt, hn]
  rw [e]
theorem list_write {w : World} {bl : Nat} {ls : List Li} (hb : Blk w bl (flat encL ls) 208) {n j : Nat} (hn : n < ls.length) (hj : j < 3) (v : Value) (y : Li) (he : encL y = (encL (lg ls n)).set j v) :
    Blk (w.setCell ⟨bl, n * 3 + j, none⟩ v) bl (flat encL (st ls n y)) 208 := by
  have h := hb.set (n * 3 + j) v
  have e : lg ls n = ls[n] := by simp [gt, hn]
  rw [e] at he
  rw [flat_set encL_len ls n j hn v y hj he] at h
  simpa [st] using h
theorem withK (K : Nat) (h : ∀ (args : Array Value) (W : World), (callFunc K args).run Try.prog W = .ok (.enter K args) W) (args : Array Value) (W : World) : (callFunc K args).run Try.prog W = .ok (.enter K args) W := h args W
theorem kjoin1 (args : Array Value) (W : World) : (callFunc 232 args).run Try.prog W = .ok (.enter 232 args) W := by kernel_rfl
theorem kjoin2 (args : Array Value) (W : World) : (callFunc 233 args).run Try.prog W = .ok (.enter 233 args) W := by kernel_rfl
theorem klay1 (args : Array Value) (W : World) : (callFunc 238 args).run Try.prog W = .ok (.enter 238 args) W := by kernel_rfl
theorem kremove1 (args : Array Value) (W : World) : (callFunc 207 args).run Try.prog W = .ok (.enter 207 args) W := by kernel_rfl
/-- What the lists' calls lean on: where lists, arena, headers and slots lie. -/
structure LRep (w : World) (pl pa bl ba : Nat) (S : List Sl) (ls : List Li) (f nx li : Value) : Prop where
  hl : Blk w pl [P0 pa, S0 bl ls.length] 192
  ha : Blk w pa [S0 ba S.length, f, nx, li] 189
  bl : Blk w bl (flat encL ls) 208
  ba : Blk w ba (flat encS S) 201
section
variable {w w' : World} {pl pa bl ba : Nat} {S : List Sl} {ls : List Li} {f nx li : Value}
theorem LRep.keep (h : LRep w pl pa bl ba S ls f nx li) (hb : Below w.heap.size w w') : LRep w' pl pa bl ba S ls f nx li := ⟨h.hl.keep hb, h.ha.keep hb, h.bl.keep hb, h.ba.keep hb⟩
theorem LRep.alloc (h : LRep w pl pa bl ba S ls f nx li) (o : Obj) : LRep (w.alloc o) pl pa bl ba S ls f nx li := ⟨h.hl.alloc _, h.ha.alloc _, h.bl.alloc _, h.ba.alloc _⟩
theorem LRep.slots {S' : List Sl} (h : LRep w pl pa bl ba S ls f nx li) (hf : Fr (· = ba) w w') (hl : S'.length = S.length) (hb : Blk w' ba (flat encS S') 201) : LRep w' pl pa bl ba S' ls f nx li :=
  ⟨hf.blk (h.hl.ne h.ba (by decide)) h.hl, by rw [hl]; exact hf.blk (h.ha.ne h.ba (by decide)) h.ha, hf.blk (h.bl.ne h.ba (by decide)) h.bl, hb⟩
theorem LRep.lists {ls' : List Li} (h : LRep w pl pa bl ba S ls f nx li) (hf : Fr (· = bl) w w') (hl : ls'.length = ls.length) (hb : Blk w' bl (flat encL ls') 208) : LRep w' pl pa bl ba S ls' f nx li :=
  ⟨by rw [hl]; exact hf.blk (h.hl.ne h.bl (by decide)) h.hl, hf.blk (h.ha.ne h.bl (by decide)) h.ha, hb, hf.blk (h.ba.ne h.bl (by decide)) h.ba⟩
end
theorem join_front {w : World} {pl pa bl ba : Nat} {S : List Sl} {ls : List Li} {f nx li : Value} (h : LRep w pl pa bl ba S ls f nx li) {t : Nat} (ht : t < ls.length) (x : Int) :
    LRep (w.setCell ⟨bl, t * 3, none⟩ (.int .i32 x)) pl pa bl ba S (st ls t ⟨x, (lg ls t).back, (lg ls t).many⟩) f nx li :=
  h.lists ((Fr.refl (fun k => k = bl) _).setEq rfl _) (st_length _ _ _) (list_write h.bl ht (j := 0) (by omega) (.int .i32 x) ⟨x, (lg ls t).back, (lg ls t).many⟩ rfl)
theorem join_back {w : World} {pl pa bl ba : Nat} {S : List Sl} {ls : List Li} {f nx li : Value} (h : LRep w pl pa bl ba S ls f nx li) {t : Nat} (ht : t < ls.length) (x : Int) :
    LRep (w.setCell ⟨bl, t * 3 + 1, none⟩ (.int .i32 x)) pl pa bl ba S (st ls t ⟨(lg ls t).front, x, (lg ls t).many⟩) f nx li :=
  h.lists ((Fr.refl (fun k => k = bl) _).setEq rfl _) (st_length _ _ _) (list_write h.bl ht (j := 1) (by omega) (.int .i32 x) ⟨(lg ls t).front, x, (lg ls t).many⟩ rfl)
theorem join_many {w : World} {pl pa bl ba : Nat} {S : List Sl} {ls : List Li} {f nx li : Value} (h : LRep w pl pa bl ba S ls f nx li) {t : Nat} (ht : t < ls.length) (x : Int) :
    LRep (w.setCell ⟨bl, t * 3 + 2, none⟩ (.int .i64 x)) pl pa bl ba S (st ls t ⟨(lg ls t).front, (lg ls t).back, x⟩) f nx li :=
  h.lists ((Fr.refl (fun k => k = bl) _).setEq rfl _) (st_length _ _ _) (list_write h.bl ht (j := 2) (by omega) (.int .i64 x) ⟨(lg ls t).front, (lg ls t).back, x⟩ rfl)
theorem join_heads {w : World} {pl pa bl ba : Nat} {S : List Sl} {ls : List Li} {f nx li : Value} (h : LRep w pl pa bl ba S ls f nx li) {t : Nat} (ht : t < ls.length) (x y : Int) :
    LRep ((w.setCell ⟨bl, t * 3, none⟩ (.int .i32 x)).setCell ⟨bl, t * 3 + 1, none⟩ (.int .i32 y)) pl pa bl ba S (st ls t ⟨x, y, (lg ls t).many⟩) f nx li := by
  have l1 : t < (st ls t (⟨x, (lg ls t).back, (lg ls t).many⟩ : Li)).length := by rw [st_length]; exact ht
  have h1 := list_write h.bl ht (j := 0) (by omega) (.int .i32 x) ⟨x, (lg ls t).back, (lg ls t).many⟩ rfl
  have e1 : lg (st ls t (⟨x, (lg ls t).back, (lg ls t).many⟩ : Li)) t = ⟨x, (lg ls t).back, (lg ls t).many⟩ := gt_st_same _ _ (by omega) (by omega)
  have h2 := list_write h1 l1 (j := 1) (by omega) (.int .i32 y) ⟨x, y, (lg ls t).many⟩ (by rw [e1]; rfl)
  have e2 : st (st ls t (⟨x, (lg ls t).back, (lg ls t).many⟩ : Li)) t (⟨x, y, (lg ls t).many⟩ : Li) = st ls t ⟨x, y, (lg ls t).many⟩ := by simp [st]
  rw [e2] at h2
  exact h.lists (((Fr.refl (fun k => k = bl) _).setEq rfl _).setEq rfl _) (st_length _ _ _) h2
set_option maxHeartbeats 1600000 in
set_option maxRecDepth 100000 in
theorem join_any (pl pa bl ba : Nat) (S : List Sl) (ls : List Li) (f nx li : Value) (t : Nat) (a b : Int) (w : World) (hn : S.length < 1000000) (ht : t < ls.length)
    (h : LRep w pl pa bl ba S ls f nx li) (hA : a = 0 ∨ isT S a = true) (hB : b = 0 ∨ isT S b = true) :
    Calls Try.prog 205 #[P0 pl, .pointer (some ⟨bl, t * 3, none⟩), .int .i32 a, .int .i32 b] w fun e w' => e = .returned (.tuple #[]) ∧ Fr (fun k => k = ba ∨ k = bl) w w' ∧
      LRep w' pl pa bl ba (jS S a b) (st ls t (jL (lg ls t) a b)) f nx li := by
  have l0 := h.bl.lt
  have l1 := h.ba.lt
  have l2 := h.hl.lt
  have l3 := h.ha.lt
  have hne := h.bl.ne h.ba (by decide)
  have c0 := list_cell h.bl ht (j := 0) (by omega)
  have c1 := list_cell h.bl ht (j := 1) (by omega)
  have f0 := h.bl.frozen (t * 3)
  have f1 := h.bl.frozen (t * 3 + 1)
  simp only [encL, List.getElem?_cons_zero, List.getElem?_cons_succ, Nat.add_zero] at c0 c1
  by_cases ha : a = 0
  · subst ha
    clear hA
    by_cases hb : b = 0
    · subst hb
      clear hB
      go_enter Try.func205, Try.ntmps205
      go_wp2_with fail
      go_end0
      refine ⟨rfl, ?_, ?_⟩
      · repeat (with_reducible first | exact Fr.refl _ _ | refine Fr.alloc ?_ _ | refine Fr.setEq ?_ ?_ _)
        all_goals exact .inr rfl
      · exact LRep.alloc (LRep.alloc (join_heads h ht 0 0) _) _
    · have hb' : (b == 0) = false := by simp [hb]
      have hB' := hB.resolve_left hb
      have e : jS S 0 b = up S b (prevTo 0) := by simp [jS, jS1, hb]
      rw [e]
      have hb2 := Go.Lib.hid hb
      have HB := Go.Lib.hid hB'
      clear hB hB' hb e
      go_enter Try.func205, Try.ntmps205
      go_wp2_with fail
      have H2 := ((join_front h ht b).alloc (.cells #[.int .i32 0] 21)).alloc (.cells #[.int .i32 b] 21)
      have Q := (Blk.new0 (w.setCell ⟨bl, t * 3, none⟩ (.int .i32 b)) [Value.int .i32 0] 21).alloc (.cells #[.int .i32 b] 21)
      rw [World.size_setCell] at Q
      refine (with_yes pl pa ba S _ f nx li b _ hn HB.out 233 _ (prevTo 0) kjoin2 (join2_turns w.heap.size 0 _ Q) H2.hl H2.ha H2.ba).mono ?_
      rintro e w1 ⟨rfl, hf1, hb1⟩
      go_wp2_with fail
      go_end0
      refine ⟨rfl, ?_, ?_⟩
      · refine Fr.trans (own' := fun k => k = ba) ?_ hf1 (fun k hk => .inl (.inl hk))
        repeat (with_reducible first | exact Fr.refl _ _ | refine Fr.alloc ?_ _ | refine Fr.setEq ?_ ?_ _)
        all_goals exact .inr rfl
      · have q := H2.slots hf1 (up_length S b (prevTo 0)) hb1
        simpa [jL, hb2.out] using q
  · have ha' : (a == 0) = false := by simp [ha]
    have hA' := hA.resolve_left ha
    have ha2 := Go.Lib.hid ha
    have HA := Go.Lib.hid hA'
    have H1 := (h.alloc (.cells #[.int .i32 a] 21)).alloc (.cells #[.int .i32 b] 21)
    have Qb := Blk.new1 w (.cells #[.int .i32 a] 21) [Value.int .i32 b] 21
    have Qa := (Blk.new0 w [Value.int .i32 a] 21).alloc (.cells #[.int .i32 b] 21)
    have na : w.heap.size ≠ ba := by omega
    have nb : w.heap.size + 1 ≠ ba := by omega
    have hl1 : S.length = (up S a (nextTo b)).length := (up_length _ _ _).symm
    by_cases hb : b = 0
    · subst hb
      have e : jS S a 0 = up S a (nextTo 0) := by simp [jS, jS1, ha]
      rw [e]
      clear hA hA' hB ha e
      go_enter Try.func205, Try.ntmps205
      go_wp2_with fail
      refine (with_yes pl pa ba S _ f nx li a _ hn HA.out 232 _ (nextTo 0) kjoin1 (join1_turns (w.heap.size + 1) 0 _ Qb) H1.hl H1.ha H1.ba).mono ?_
      rintro e w1 ⟨rfl, hf1, hb1⟩
      have z1 := hf1.size
      simp only [World.size_alloc] at z1
      have H2 := H1.slots hf1 (up_length S a (nextTo 0)) hb1
      have g0 := (hf1.blk na Qa).cell 0
      have g1 := (hf1.blk nb Qb).cell 0
      have c1' := list_cell H2.bl ht (j := 1) (by omega)
      have f1' := H2.bl.frozen (t * 3 + 1)
      have lbl := H2.bl.lt
      simp only [encL, List.getElem?_cons_zero, List.getElem?_cons_succ] at g0 g1 c1'
      have HF1 := Go.Lib.hid hf1
      have HB1 := Go.Lib.hid hb1
      clear hf1 hb1
      go_wp2_with fail
      go_end0
      refine ⟨rfl, ?_, ?_⟩
      · refine Fr.setEq (Fr.trans (own' := fun k => k = ba) ((Fr.refl _ _).alloc _ |>.alloc _) HF1.out (fun k hk => .inl (.inl hk))) (.inr rfl) _
      · have q := join_back H2 ht a
        simpa [jL, ha2.out] using q
    · have hb' : (b == 0) = false := by simp [hb]
      have hB' : isT (up S a (nextTo b)) b = true := by rw [isT_up hA']; exact hB.resolve_left hb
      have e : jS S a b = up (up S a (nextTo b)) b (prevTo a) := by simp [jS, jS1, ha, hb]
      rw [e]
      have hb2 := Go.Lib.hid hb
      have HB := Go.Lib.hid hB'
      clear hA hA' hB hB' ha hb e
      go_enter Try.func205, Try.ntmps205
      go_wp2_with fail
      refine (with_yes pl pa ba S _ f nx li a _ hn HA.out 232 _ (nextTo b) kjoin1 (join1_turns (w.heap.size + 1) b _ Qb) H1.hl H1.ha H1.ba).mono ?_
      rintro e w1 ⟨rfl, hf1, hb1⟩
      have z1 := hf1.size
      simp only [World.size_alloc] at z1
      have H2 := H1.slots hf1 (up_length S a (nextTo b)) hb1
      have Qa' := hf1.blk na Qa
      have g0 := Qa'.cell 0
      have g1 := (hf1.blk nb Qb).cell 0
      simp only [List.getElem?_cons_zero] at g0 g1
      have HF1 := Go.Lib.hid hf1
      have HB1 := Go.Lib.hid hb1
      clear hf1 hb1
      go_wp2_with fail
      refine (with_yes pl pa ba _ _ f nx li b _ (by rw [up_length]; exact hn) HB.out 233 _ (prevTo a) kjoin2 (join2_turns w.heap.size a _ Qa') H2.hl H2.ha H2.ba).mono ?_
      rintro e w2 ⟨rfl, hf2, hb2'⟩
      go_wp2_with fail
      go_end0
      refine ⟨rfl, ?_, ?_⟩
      · exact Fr.trans (own' := fun k => k = ba) (Fr.trans (own' := fun k => k = ba) ((Fr.refl _ _).alloc _ |>.alloc _) HF1.out (fun k hk => .inl (.inl hk))) hf2 (fun k hk => .inl (.inl hk))
      · have q := H2.slots hf2 (up_length _ b (prevTo a)) hb2'
        have q2 : st ls t (jL (lg ls t) a b) = ls := by
          have e2 : jL (lg ls t) a b = lg ls t := by simp [jL, ha2.out, hb2.out]
          rw [e2]
          simp [st, gt, ht]
        rw [q2]
        exact q
end Go.Proofs.Ytlakojncjldpbaa
