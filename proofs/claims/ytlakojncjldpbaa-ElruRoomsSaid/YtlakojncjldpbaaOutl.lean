/- A slot taken out of its list; laid at a front; moved to a front. -/
import Derived.Test.YtlakojncjldpbaaLay
namespace Go.Proofs.Ytlakojncjldpbaa
open Go.RowKit Hop
set_option linter.unusedVariables false
set_option linter.unusedSimpArgs false
set_option maxRecDepth 100000
section
variable (pl pa bl ba : Nat) (S : List Sl) (ls : List Li) (f nx li : Value)
set_option maxHeartbeats 1600000 in
theorem remove_yes (t : Nat) (i : Int) (w : World) (hn : S.length < 1000000) (hls : ls.length < 100) (ht : t < ls.length) (h : LRep w pl pa bl ba S ls f nx li)
    (hi : isT S i = true) (hi0 : (ndT S i).tag = t + 1) (hp : (ndT S i).prev = 0 ∨ isT S (ndT S i).prev = true) (hx : (ndT S i).next = 0 ∨ isT S (ndT S i).next = true) (hm : 0 < (lg ls t).many ∧ (lg ls t).many < 1000000) :
    Calls Try.prog 176 #[P0 pl, .int .i32 i] w fun e w' => e = .returned (.bool true) ∧ Fr (fun k => k = ba ∨ k = bl) w w' ∧
      LRep w' pl pa bl ba (outS S i) (st ls t (outL S (lg ls t) i)) f nx li := by
  have hlt := isT_lt hi
  have hi1 : i ≠ 0 := by omega
  have hile : i ≤ 2147483647 := by omega
  have hj : isT (jS S (ndT S i).prev (ndT S i).next) i = true := by rw [jS_isT hp hx]; exact hi
  have e0 : outS S i = up (jS S (ndT S i).prev (ndT S i).next) i outN := rfl
  have e00 : outL S (lg ls t) i = more (jL (lg ls t) (ndT S i).prev (ndT S i).next) (-1) := rfl
  rw [e0, e00]
  have HI := Go.Lib.hid hi
  have HI0 := Go.Lib.hid hi0
  have HX := Go.Lib.hid hx
  have HP := Go.Lib.hid hp
  have HJ := Go.Lib.hid hj
  have AT : ∀ w, LRep w pl pa bl ba S ls f nx li → Calls Try.prog 170 #[P0 pa, .int .i32 i] w fun e w' => e = .returned (.agg (encN (ndT S i)).toArray) ∧ Below w.heap.size w w' := fun w h => at_any pa ba S f nx li i w hile hn h.ha h.ba
  have TG : ∀ w, LRep w pl pa bl ba S ls f nx li → Calls Try.prog 174 #[P0 pl, .int .i32 i] w fun e w' => e = .returned (.int .i64 t) ∧ Below w.heap.size w w' := by
    intro w h
    refine (tag_any pl pa bl ba S ls f nx li i w hile hn h (by omega)).mono ?_
    rw [hi0]
    rintro e w' ⟨rfl, hb⟩
    exact ⟨by congr 2; omega, hb⟩
  have HAT := Go.Lib.hid AT
  have HTG := Go.Lib.hid TG
  clear AT TG hi hi0 hp hx hlt hj e0 e00
  generalize ndT S i = x at *
  obtain ⟨k, v, fl, tg, pv, nt⟩ := x
  simp only at HP HX HJ ⊢
  go_enter Try.func176, Try.ntmps176
  go_wp2_with fail
  refine (HTG.out _ h).mono ?_
  rintro e w1 ⟨rfl, hb1⟩
  have H1 := h.keep hb1
  have F1 : Fr (fun k => k = ba ∨ k = bl) w w1 := Fr.of_below hb1
  have c0 := H1.hl.cell 0
  simp only [List.getElem?_cons_zero] at c0
  have HB1 := Go.Lib.hid hb1
  clear hb1
  go_wp2_with fail
  refine (list_yes pl pa bl ba S ls f nx li t _ (by omega) ht H1).mono ?_
  rintro e w' ⟨rfl, rfl⟩
  go_wp2_with fail
  refine (HAT.out _ H1).mono ?_
  simp only [encN]
  rintro e w2 ⟨rfl, hb2⟩
  have H2 := H1.keep hb2
  have F2 := F1.and_below hb2
  have H2b := H2.alloc (.cells #[.int .u64 k, .int .u64 v, .int .i64 fl, .int .i64 tg, .int .i32 pv, .int .i32 nt] 164)
  have F2b := F2.alloc (.cells #[.int .u64 k, .int .u64 v, .int .i64 fl, .int .i64 tg, .int .i32 pv, .int .i32 nt] 164)
  clear hb2 H1 F1 c0
  go_wp2_with fail
  refine (join_any pl pa bl ba S ls f nx li t pv nt _ hn ht H2b HP.out HX.out).mono ?_
  rintro e w3 ⟨rfl, hf3, H3⟩
  have F3 := F2b.trans hf3 (fun k hk => .inl hk)
  have htl : t < (st ls t (jL (lg ls t) pv nt)).length := by rw [st_length]; exact ht
  have d2 := list_cell H3.bl htl (j := 2) (by omega)
  have g2 := H3.bl.frozen (t * 3 + 2)
  have e3 : lg (st ls t (jL (lg ls t) pv nt)) t = jL (lg ls t) pv nt := gt_st_same _ _ (by omega) (by omega)
  rw [e3] at d2
  simp only [encL, List.getElem?_cons_zero, List.getElem?_cons_succ, jL] at d2
  have H4 := join_many H3 htl ((lg ls t).many - 1)
  have e4 : ∀ y : Li, st (st ls t (jL (lg ls t) pv nt)) t y = st ls t y := by intro y; simp [st]
  rw [e3, e4] at H4
  have F4 := F3.setEq (b := bl) (o := t * 3 + 2) (.inr rfl) (.int .i64 ((lg ls t).many - 1))
  clear hf3 H3 F3 H2 H2b F2 F2b e3 e4
  obtain ⟨hm0, hm1⟩ := hm
  go_wp2_with fail
  refine (with_yes pl pa ba _ _ f nx li i _ (by rw [jS_length]; exact hn) HJ.out 207 #[] outN kremove1 (remove1_turns _) H4.hl H4.ha H4.ba).mono ?_
  rintro e w5 ⟨rfl, hf5, hb5⟩
  have H5 := H4.slots hf5 (up_length _ i outN) hb5
  have F5 := F4.trans (own' := fun k => k = ba) hf5 (fun k hk => .inl (.inl hk))
  clear hf5 hb5 H4 F4
  go_wp2_with fail
  go_ret
  exact ⟨rfl, F5, H5⟩
set_option maxHeartbeats 800000 in
theorem pushfront_yes (t : Nat) (i : Int) (w : World) (hn : S.length < 1000000) (hls : ls.length < 100) (ht : t < ls.length) (h : LRep w pl pa bl ba S ls f nx li)
    (hi : isT S i = true) (hi0 : (ndT S i).tag = 0) (hx : (lg ls t).front = 0 ∨ isT S (lg ls t).front = true) (hm : 0 ≤ (lg ls t).many ∧ (lg ls t).many < 1000000) :
    Calls Try.prog 182 #[P0 pl, .int .i64 t, .int .i32 i] w fun e w' => e = .returned (.bool true) ∧ Fr (fun k => k = ba ∨ k = bl) w w' ∧
      LRep w' pl pa bl ba (layS S t 0 i (lg ls t).front) (st ls t (layL (lg ls t) 0 i (lg ls t).front)) f nx li := by
  have HI := Go.Lib.hid hi
  have HI0 := Go.Lib.hid hi0
  have HX := Go.Lib.hid hx
  have HM := Go.Lib.hid hm
  clear hi hi0 hx hm
  go_enter Try.func182, Try.ntmps182
  go_wp2_with fail
  refine (front_yes pl pa bl ba S ls f nx li t _ (by omega) ht h).mono ?_
  rintro e w' ⟨rfl, rfl⟩
  go_wp2_with fail
  refine (lay_yes pl pa bl ba S ls f nx li t 0 i (lg ls t).front _ hn hls ht h HI.out HI0.out (.inl rfl) HX.out HM.out).mono ?_
  rintro e w1 ⟨rfl, hf1, H1⟩
  go_wp2_with fail
  go_ret
  exact ⟨rfl, hf1, H1⟩
end
end Go.Proofs.Ytlakojncjldpbaa
