/- The cache over a store: its functions. -/
import Derived.Test.YtlakojncjldpbaaElru
namespace Go.Proofs.Ytlakojncjldpbaa
open Go.RowKit Hop
set_option linter.unusedVariables false
set_option linter.unusedSimpArgs false
set_option maxRecDepth 100000
/-- The cache, with its keys and its capacity; these blocks are its own. -/
def Ela (w : World) (px : Nat) (O : Nat → Prop) (L : List Int) (c : Int) (p : Nat) : Prop :=
  ∃ ps O1, Blk w px [P0 ps, .int .i64 c] 113 ∧ Sta w ps O1 (qL L) p ∧ ¬ O1 px ∧ O = (fun k => k = px ∨ O1 k)
theorem Ela.keep {w w' : World} {px : Nat} {O : Nat → Prop} {L : List Int} {c : Int} {p : Nat} (h : Ela w px O L c p) (hb : Below w.heap.size w w') : Ela w' px O L c p := by
  obtain ⟨ps, O1, h1, h2, h3⟩ := h
  exact ⟨ps, O1, h1.keep hb, h2.keep hb, h3⟩
theorem Ela.lt {w : World} {px : Nat} {O : Nat → Prop} {L : List Int} {c : Int} {p : Nat} (h : Ela w px O L c p) {k : Nat} (hk : O k) : k < w.heap.size := by
  obtain ⟨ps, O1, h1, h2, h3, rfl⟩ := h
  rcases hk with rfl | hk
  · exact h1.lt
  · exact h2.lt hk
theorem Ela.qok {w : World} {px : Nat} {O : Nat → Prop} {L : List Int} {c : Int} {p : Nat} (h : Ela w px O L c p) : Qok (qL L) p := by
  obtain ⟨ps, O1, h1, h2, h3, rfl⟩ := h
  exact h2.qok
theorem Ela.len {w : World} {px : Nat} {O : Nat → Prop} {L : List Int} {c : Int} {p : Nat} (h : Ela w px O L c p) : L.length ≤ p ∧ p < 50000 := by
  have q := h.qok
  have := q.tot
  rw [tot_qL] at this
  exact ⟨this, q.p4⟩
theorem chg_up {O O' : Nat → Prop} {w w' : World} (px : Nat) (h : Chg O O' w w') : Chg (fun k => k = px ∨ O k) (fun k => k = px ∨ O' k) w w' :=
  ⟨h.fr.mono (fun k hk => .inr hk), fun k hk => hk.elim (fun e => .inl (.inl e)) (fun hk => (h.own k hk).imp .inr id)⟩
section
variable {ps : Nat} {O : Nat → Prop} {p : Nat} {L : List Int} {c : Int}
set_option maxHeartbeats 800000 in
theorem ehas_any (px : Nat) (k : Int) (w : World) (hk0 : 0 ≤ k) (hk1 : k < 18446744073709551616) (H : Ela w px O L c p) :
    Calls Try.prog 32 #[P0 px, .int .u64 k] w fun e w' => e = .returned (.bool (decide (k ∈ L))) ∧ Below w.heap.size w w' := by
  obtain ⟨ps, O1, hx, hs, hn, rfl⟩ := H
  have c0 := hx.cell 0
  simp only [List.getElem?_cons_zero, List.getElem?_cons_succ] at c0
  have hF : Calls Try.prog 118 #[P0 ps, .int .u64 k] w fun e w' => ∃ t : Nat, e = .returned (.tuple #[.int .i64 t, .bool (decide (k ∈ L))]) ∧ Below w.heap.size w w' := by
    refine (find_sta k w hk0 hk1 hs).mono ?_
    rintro e w' ⟨t, ok, rfl, hb, h⟩
    refine ⟨t, ?_, hb⟩
    rcases h with ⟨h1, h2, e, h3, h4⟩ | ⟨h1, h2, h3⟩
    · have : k ∈ L := by
        refine (hasK_qL L k).1 ⟨(qL L).getD t [], ?_, e, h3, h4⟩
        rw [List.getD_eq_getElem?_getD, List.getElem?_eq_getElem h2]
        exact List.getElem_mem h2
      rw [h1, decide_eq_true this]
    · rw [hasK_qL] at h3
      rw [h1, decide_eq_false h3]
  have HF := Go.Lib.hid hF
  clear hF hs hn
  generalize decide (k ∈ L) = b at *
  go_enter Try.func32, Try.ntmps32
  go_wp2_with fail
  refine HF.out.mono ?_
  rintro e w1 ⟨t, rfl, hb⟩
  have HB := Go.Lib.hid hb
  clear hb
  go_wp2_with fail
  go_ret
  exact ⟨rfl, HB.out⟩
set_option maxHeartbeats 800000 in
theorem etouch_any (px : Nat) (k : Int) (w : World) (hk0 : 0 ≤ k) (hk1 : k < 18446744073709551616) (H : Ela w px O L c p) :
    Calls Try.prog 36 #[P0 px, .int .u64 k] w fun e w' => e = .returned (.tuple #[]) ∧ ∃ O', Ela w' px O' (touchL L k) c p ∧ Chg O O' w w' := by
  obtain ⟨ps, O1, hx, hs, hn, rfl⟩ := H
  have c0 := hx.cell 0
  simp only [List.getElem?_cons_zero, List.getElem?_cons_succ] at c0
  have hM : Calls Try.prog 119 #[P0 ps, .int .i64 0, .int .u64 k] w fun e w' => (∃ b, e = .returned (.bool b)) ∧ ∃ O', Ela w' px O' (touchL L k) c p ∧ Chg (fun k => k = px ∨ O1 k) O' w w' := by
    by_cases hk : k ∈ L
    · refine (move_has 0 k w hk0 hk1 (by unfold qL; simp) ((hasK_qL L k).2 hk) hs).mono ?_
      rintro e w' ⟨rfl, e0, h1, h2, O', h3, h4⟩
      rw [ent_qL h1 h2, del_qL, ins_qL] at h3
      refine ⟨⟨true, rfl⟩, _, ⟨ps, O', h4.blk hn hx, ?_, h4.not hx.lt hn, rfl⟩, chg_up px h4⟩
      unfold touchL
      rw [if_pos hk]
      exact h3
    · refine (move_not 0 k w hk0 hk1 (fun h => hk ((hasK_qL L k).1 h)) hs).mono ?_
      rintro e w' ⟨rfl, hb⟩
      refine ⟨⟨false, rfl⟩, _, ⟨ps, O1, hx.keep hb, ?_, hn, rfl⟩, Chg.of_below hb⟩
      unfold touchL
      rw [if_neg hk]
      exact hs.keep hb
  have HM := Go.Lib.hid hM
  clear hM hs hn
  go_enter Try.func36, Try.ntmps36
  go_wp2_with fail
  refine HM.out.mono ?_
  rintro e w1 ⟨⟨b, rfl⟩, hO⟩
  have HO := Go.Lib.hid hO
  clear hO
  go_wp2_with fail
  go_end0
  exact ⟨rfl, HO.out⟩
set_option maxHeartbeats 800000 in
theorem edrop_any (px : Nat) (k : Int) (w : World) (hk0 : 0 ≤ k) (hk1 : k < 18446744073709551616) (H : Ela w px O L c p) :
    Calls Try.prog 37 #[P0 px, .int .u64 k] w fun e w' => e = .returned (.tuple #[]) ∧ ∃ O', Ela w' px O' (wo L k) c p ∧ Chg O O' w w' := by
  obtain ⟨ps, O1, hx, hs, hn, rfl⟩ := H
  have c0 := hx.cell 0
  simp only [List.getElem?_cons_zero, List.getElem?_cons_succ] at c0
  have hM : Calls Try.prog 120 #[P0 ps, .int .u64 k] w fun e w' => (∃ b, e = .returned (.bool b)) ∧ ∃ O', Ela w' px O' (wo L k) c p ∧ Chg (fun k => k = px ∨ O1 k) O' w w' := by
    by_cases hk : k ∈ L
    · refine (sremove_has k w hk0 hk1 ((hasK_qL L k).2 hk) hs).mono ?_
      rintro e w' ⟨rfl, O', h3, h4⟩
      rw [del_qL] at h3
      exact ⟨⟨true, rfl⟩, _, ⟨ps, O', h4.blk hn hx, h3, h4.not hx.lt hn, rfl⟩, chg_up px h4⟩
    · refine (sremove_not k w hk0 hk1 (fun h => hk ((hasK_qL L k).1 h)) hs).mono ?_
      rintro e w' ⟨rfl, hb⟩
      refine ⟨⟨false, rfl⟩, _, ⟨ps, O1, hx.keep hb, ?_, hn, rfl⟩, Chg.of_below hb⟩
      have : wo L k = L := by
        unfold wo
        exact List.filter_eq_self.2 (fun a ha => by simp; rintro rfl; exact hk ha)
      rw [this]
      exact hs.keep hb
  have HM := Go.Lib.hid hM
  clear hM hs hn
  go_enter Try.func37, Try.ntmps37
  go_wp2_with fail
  refine HM.out.mono ?_
  rintro e w1 ⟨⟨b, rfl⟩, hO⟩
  have HO := Go.Lib.hid hO
  clear hO
  go_wp2_with fail
  go_end0
  exact ⟨rfl, HO.out⟩
set_option maxHeartbeats 800000 in
theorem erooms_any (px : Nat) (w : World) (H : Ela w px O L c p) :
    Calls Try.prog 28 #[P0 px] w fun e w' => ∃ a b : Nat, e = .returned (.tuple #[.int .i64 a, .int .i64 b]) ∧ Below w.heap.size w w' ∧ L.length ≤ a ∧ L.length ≤ b ∧ a ≤ 8 + 2 * p ∧ 3 * b ≤ 24 + 8 * p ∧ (a % 8 = 0 ∧ 8 ≤ a ∧ b % 8 = 0 ∧ 8 ≤ b) := by
  obtain ⟨ps, O1, hx, hs, hn, rfl⟩ := H
  have c0 := hx.cell 0
  simp only [List.getElem?_cons_zero, List.getElem?_cons_succ] at c0
  have HR := rooms_sta w hs
  rw [tot_qL] at HR
  have HR := Go.Lib.hid HR
  clear hs hn
  go_enter Try.func28, Try.ntmps28
  go_wp2_with fail
  refine HR.out.mono ?_
  rintro e w1 ⟨a, b, rfl, hb, hr⟩
  have HB := Go.Lib.hid hb
  have HRR := Go.Lib.hid hr
  clear hb hr
  go_wp2_with fail
  go_ret2
  exact ⟨a, b, rfl, HB.out, HRR.out⟩
theorem eghosts_any (px : Nat) (w : World) :
    Calls Try.prog 34 #[P0 px] w fun e w' => e = .returned (.int .i64 0) ∧ w = w' := by
  go_enter Try.func34, Try.ntmps34
  go_wp2_with fail
  go_ret
  exact ⟨rfl, rfl⟩
end
end Go.Proofs.Ytlakojncjldpbaa
