/- A slot laid into a list, and taken out. -/
import Derived.Test.YtlakojncjldpbaaLists
namespace Go.Proofs.Ytlakojncjldpbaa
open Go.RowKit Hop
set_option linter.unusedVariables false
set_option linter.unusedSimpArgs false
set_option maxRecDepth 100000
def layN (t p n : Int) (x : Nd) : Nd := { x with tag := t + 1, prev := p, next := n }
def outN (x : Nd) : Nd := { x with tag := 0, prev := 0, next := 0 }
def layS (S : List Sl) (t p i n : Int) : List Sl := jS (jS (up S i (layN t p n)) p i) i n
def more (x : Li) (d : Int) : Li := ⟨x.front, x.back, x.many + d⟩
def layL (x : Li) (p i n : Int) : Li := more (jL (jL x p i) i n) 1
def outS (S : List Sl) (i : Int) : List Sl := up (jS S (ndT S i).prev (ndT S i).next) i outN
def outL (S : List Sl) (x : Li) (i : Int) : Li := more (jL x (ndT S i).prev (ndT S i).next) (-1)
theorem jS_length (S : List Sl) (a b : Int) : (jS S a b).length = S.length := by
  unfold jS jS1
  (repeat' split) <;> simp [up_length]
theorem jS_isT {S : List Sl} {a b : Int} (ha : a = 0 ∨ isT S a = true) (hb : b = 0 ∨ isT S b = true) (j : Int) : isT (jS S a b) j = isT S j := by
  have h1 : ∀ j, isT (jS1 S a b) j = isT S j := by
    intro j
    unfold jS1
    split
    · rfl
    · rename_i h; exact isT_up (ha.resolve_left h)
  unfold jS
  split
  · exact h1 j
  · rename_i h
    rw [isT_up (by rw [h1]; exact hb.resolve_left h)]
    exact h1 j
section
variable (pl pa bl ba : Nat) (S : List Sl) (ls : List Li) (f nx li : Value)
set_option maxHeartbeats 1600000 in
theorem lay_yes (t : Nat) (p i n : Int) (w : World) (hn : S.length < 1000000) (hls : ls.length < 100) (ht : t < ls.length) (h : LRep w pl pa bl ba S ls f nx li)
    (hi : isT S i = true) (hi0 : (ndT S i).tag = 0) (hp : p = 0 ∨ isT S p = true) (hx : n = 0 ∨ isT S n = true) (hm : 0 ≤ (lg ls t).many ∧ (lg ls t).many < 1000000) :
    Calls Try.prog 219 #[P0 pl, .int .i64 t, .int .i32 p, .int .i32 i, .int .i32 n] w fun e w' => e = .returned (.bool true) ∧ Fr (fun k => k = ba ∨ k = bl) w w' ∧
      LRep w' pl pa bl ba (layS S t p i n) (st ls t (layL (lg ls t) p i n)) f nx li := by
  have l0 := h.bl.lt
  have l1 := h.ba.lt
  have l2 := h.hl.lt
  have l3 := h.ha.lt
  have hlt := isT_lt hi
  have hi1 : i ≠ 0 := by omega
  have hile : i ≤ 2147483647 := by omega
  have H0 := ((h.alloc (.cells #[.int .i64 t] 3)).alloc (.cells #[.int .i32 p] 21)).alloc (.cells #[.int .i32 n] 21)
  have Qt := ((Blk.new0 w [Value.int .i64 t] 3).alloc (.cells #[.int .i32 p] 21)).alloc (.cells #[.int .i32 n] 21)
  have Qp := (Blk.new1 w (.cells #[.int .i64 t] 3) [Value.int .i32 p] 21).alloc (.cells #[.int .i32 n] 21)
  have Qn := Blk.new2 w (.cells #[.int .i64 t] 3) (.cells #[.int .i32 p] 21) [Value.int .i32 n] 21
  have hpS : ∀ j, isT (up S i (layN t p n)) j = isT S j := fun j => isT_up hi
  have hp1 : p = 0 ∨ isT (up S i (layN t p n)) p = true := by rw [hpS]; exact hp
  have hi2 : i = 0 ∨ isT (up S i (layN t p n)) i = true := by rw [hpS]; exact .inr hi
  have hi3 : i = 0 ∨ isT (jS (up S i (layN t p n)) p i) i = true := by rw [jS_isT hp1 hi2]; exact hi2
  have hx3 : n = 0 ∨ isT (jS (up S i (layN t p n)) p i) n = true := by rw [jS_isT hp1 hi2, hpS]; exact hx
  have F0 : Fr (fun k => k = ba ∨ k = bl) w _ := (((Fr.refl _ w).alloc (.cells #[.int .i64 t] 3)).alloc (.cells #[.int .i32 p] 21)).alloc (.cells #[.int .i32 n] 21)
  have HI := Go.Lib.hid hi
  have HI0 := Go.Lib.hid hi0
  have HP1 := Go.Lib.hid hp1
  have HI2 := Go.Lib.hid hi2
  have HI3 := Go.Lib.hid hi3
  have HX3 := Go.Lib.hid hx3
  have HX := Go.Lib.hid hx
  have HP := Go.Lib.hid hp
  clear hi hi0 hp1 hi2 hi3 hx3 hx hp hpS hlt
  go_enter Try.func219, Try.ntmps219
  go_wp2_with fail
  refine (list_yes pl pa bl ba S ls f nx li t _ (by omega) ht H0).mono ?_
  rintro e w0 ⟨rfl, hw⟩
  have z0 : w.heap.size + 1 + 1 + 1 = w0.heap.size := by rw [← hw]; simp
  rw [hw] at H0 Qt Qp Qn F0
  have c0 := H0.hl.cell 0
  simp only [List.getElem?_cons_zero] at c0
  have Z0 := Go.Lib.hid z0
  clear hw z0
  go_wp2_with fail
  refine (is_any pa ba S f nx li i _ hile hn H0.ha H0.ba).mono ?_
  rw [HI.out]
  rintro e w' ⟨rfl, rfl⟩
  go_wp2_with fail
  refine (tag_any pl pa bl ba S ls f nx li i _ hile hn H0 (by rw [HI0.out]; omega)).mono ?_
  rw [HI0.out]
  rintro e w1 ⟨rfl, hb1⟩
  have H1 := H0.keep hb1
  have Qt1 := Qt.keep hb1
  have Qp1 := Qp.keep hb1
  have Qn1 := Qn.keep hb1
  have z1 : w.heap.size + 1 + 1 + 1 ≤ w1.heap.size := by have := hb1.size; rw [Z0.out]; exact this
  have F1 : Fr (fun k => k = ba ∨ k = bl) w w1 := F0.and_below hb1
  have HB1 := Go.Lib.hid hb1
  clear hb1 H0 Qt Qp Qn c0 F0
  go_wp2_with fail
  refine (with_yes pl pa ba S _ f nx li i _ hn HI.out 238 _ (layN t p n) klay1 (lay1_turns w.heap.size (w.heap.size + 1) (w.heap.size + 1 + 1) t p n _ (by omega) (by omega) (by omega) (by omega) (by omega) Qt1 Qp1 Qn1) H1.hl H1.ha H1.ba).mono ?_
  rintro e w2 ⟨rfl, hf2, hb2⟩
  have H2 := H1.slots hf2 (up_length S i (layN t p n)) hb2
  have F2 := F1.trans (own' := fun k => k = ba) hf2 (fun k hk => .inl (.inl hk))
  have n0 : w.heap.size ≠ ba := by omega
  have n1 : w.heap.size + 1 ≠ ba := by omega
  have n2 : w.heap.size + 1 + 1 ≠ ba := by omega
  have Qp2 := hf2.blk n1 Qp1
  have Qn2 := hf2.blk n2 Qn1
  have c0 := Qp2.cell 0
  simp only [List.getElem?_cons_zero] at c0
  clear hf2 hb2 H1 Qt1 Qp1 Qn1 F1 n0
  go_wp2_with fail
  refine (join_any pl pa bl ba _ ls f nx li t p i _ (by rw [up_length]; exact hn) ht H2 HP1.out HI2.out).mono ?_
  rintro e w3 ⟨rfl, hf3, H3⟩
  have F3 := F2.trans hf3 (fun k hk => .inl hk)
  have n3 : ¬ (w.heap.size + 1 + 1 = ba ∨ w.heap.size + 1 + 1 = bl) := by omega
  have c1 := (hf3.blk n3 Qn2).cell 0
  simp only [List.getElem?_cons_zero] at c1
  clear hf3 H2 c0 F2 Qp2 Qn2 n3 n2 n1
  go_wp2_with fail
  refine (join_any pl pa bl ba _ _ f nx li t i n _ (by rw [jS_length, up_length]; exact hn) (by rw [st_length]; exact ht) H3 HI3.out HX3.out).mono ?_
  rintro e w4 ⟨rfl, hf4, H4⟩
  have F4 := F3.trans hf4 (fun k hk => .inl hk)
  have e1 : lg (st ls t (jL (lg ls t) p i)) t = jL (lg ls t) p i := gt_st_same _ _ (by omega) (by omega)
  have e2 : ∀ y : Li, st (st ls t (jL (lg ls t) p i)) t y = st ls t y := by intro y; simp [st]
  rw [e1, e2] at H4
  have htl : t < (st ls t (jL (jL (lg ls t) p i) i n)).length := by rw [st_length]; exact ht
  have d2 := list_cell H4.bl htl (j := 2) (by omega)
  have g2 := H4.bl.frozen (t * 3 + 2)
  have e3 : lg (st ls t (jL (jL (lg ls t) p i) i n)) t = jL (jL (lg ls t) p i) i n := gt_st_same _ _ (by omega) (by omega)
  rw [e3] at d2
  simp only [encL, List.getElem?_cons_zero, List.getElem?_cons_succ, jL] at d2
  have H5 := join_many H4 htl ((lg ls t).many + 1)
  have e4 : ∀ y : Li, st (st ls t (jL (jL (lg ls t) p i) i n)) t y = st ls t y := by intro y; simp [st]
  rw [e3, e4] at H5
  have F5 := F4.setEq (b := bl) (o := t * 3 + 2) (.inr rfl) (.int .i64 ((lg ls t).many + 1))
  clear hf4 H4 H3 F4 F3 c1 e1 e2 e3 e4
  obtain ⟨hm0, hm1⟩ := hm
  go_wp2_with fail
  go_ret
  exact ⟨rfl, F5, H5⟩
end
end Go.Proofs.Ytlakojncjldpbaa
