/- ScriptBack: the law's walk. -/
import Derived.Test.YtddihnnodegkmaaDoorSe2
namespace Go.Proofs.YtddihnnodegkmaaDoor
open Go.RowKit Hop
set_option linter.unusedVariables false
set_option linter.unusedSimpArgs false
set_option maxRecDepth 100000
theorem row_own {w : World} {base : Nat} {v : Value} {k : Nat} {xs : List Value} (h : w.ownsRow base 48 4 v k xs) : ∀ q, some q = v.ownBlock → base ≤ q := by
  intro q hq
  rcases h.2 with ⟨h1, _⟩ | ⟨g, cap, cur, h1, h2, _⟩
  · rw [h1] at hq; cases hq
  · rw [h1] at hq
    have e : q = g := by simpa [Value.ownBlock] using hq
    subst e; exact h2
theorem below_grown {n₀ : Nat} {w w1 w2 : World} {r : Option Nat} (h : Below n₀ w w1) (hn : n₀ ≤ w.heap.size) (hg : w1.grownBy w2 r) (hr : ∀ q, some q = r → n₀ ≤ q) : Below n₀ w w2 :=
  fr_below h hn (fr_grown hg) hr
theorem row_keep {w w' : World} {base : Nat} {v : Value} {k : Nat} {xs : List Value} (h : w.ownsRow base 48 4 v k xs) (hb : Below w.heap.size w w') : w'.ownsRow base 48 4 v k xs := by
  refine ⟨h.1, ?_⟩
  rcases h.2 with q | ⟨g, cap, cur, q1, q2, q3, q4⟩
  · exact .inl q
  · exact .inr ⟨g, cap, cur, q1, q2, (hb.block g (Array.getElem?_eq_some_iff.1 q3).1).trans q3, q4⟩
set_option maxHeartbeats 3200000 in
theorem back_any (v : Value) (A : List Op4) (w : World) (h : Env w) (hA : OL w v A) : Calls Tryd.prog 8 #[v] w fun e w' => e = .returned (.bool true) ∧ Below w.heap.size w w' := by
  have HE := Go.Lib.hid h
  have HA := Go.Lib.hid hA
  have okA := Go.Lib.hid hA.ok
  obtain ⟨a, cap, rfl, hm, _, _⟩ := hA
  unfold maxLen at hm
  clear h
  go_enter Tryd.func8, Tryd.ntmps8
  go_wp2_with fail
  refine (awake20_any w HE.out).mono ?_
  rintro e w1 ⟨rfl, hb⟩
  have HB1 := Go.Lib.hid hb
  have HE1 := Go.Lib.hid (HE.out.keep hb)
  have HA1 := Go.Lib.hid (HA.out.keep hb)
  have zb := hb.size
  clear hb
  by_cases h1 : 60 < A.length
  · go_wp2_with fail
    go_ret
    exact ⟨rfl, HB1.out⟩
  have HPG : Hid (∀ w, Env w → Calls Tryd.prog 25 #[.string (textF A)] w fun e w' => ∃ v, e = .returned (.tuple #[v, .nilIface]) ∧ OL w' v (A.map bareF) ∧ Below w.heap.size w w') := Go.Lib.hid (fun w hw => by
    have zA : (textF A).size ≤ 3660 := by have := textF_size okA.out; omega
    have e : lnF (textF A).size (textF A) = A.map lineF := lnF_text0 A
    refine (parse_good _ w (by omega) hw (by rw [e]; exact okL_lines okA.out)).mono ?_
    rintro e' w' ⟨v, h1, h2, _, h3⟩
    refine ⟨v, h1, ?_, h3⟩
    rw [e, List.map_map] at h2
    rw [show A.map bareF = A.map (rdF ∘ lineF) from List.map_congr_left (fun x hx => (rdF_line (okA.out x hx)).symm)]
    exact h2)
  have HTX : Hid (textF (A.map bareF) = textF A) := Go.Lib.hid (by
    apply ba_ext
    show (textL _).toArray.toList = (textL _).toArray.toList
    unfold textL
    rw [List.flatMap_map]
    simp only [lineF_bare])
  have okM : Hid (∀ x ∈ A.map bareF, x.ok) := Go.Lib.hid (fun x hx => by
    obtain ⟨y, hy, rfl⟩ := List.mem_map.1 hx
    exact bareF_ok (okA.out y hy))
  have HLM : Hid ((A.map bareF).length = A.length) := Go.Lib.hid (by simp)
  go_wp2_with fail
  go_loopw [4, 5] (fun u i wr => ∃ j : Nat, j ≤ A.length ∧ i = .int .i64 j ∧ wr.ownsRow w.heap.size 48 4 u j (((A.take j).map bareF).flatMap cOp) ∧ Below w.heap.size w wr ∧ w1.heap.size ≤ wr.heap.size) (fun u i _ => A.length - (intOf i).toNat)
  case atStart => exact ⟨0, Nat.zero_le _, rfl, World.ownsRow_nil _ _ _ _, HB1.out, Nat.le_refl _⟩
  case round =>
    obtain ⟨j, hj, rfl, hrow, hB, hz⟩ := hrel
    have HB := Go.Lib.hid hB
    have HR := Go.Lib.hid hrow
    obtain ⟨ua, un, uc, rfl⟩ : ∃ ua un uc, u4 = .slice ua un uc := by
      rcases hrow.2 with ⟨h1, _⟩ | ⟨g, cap, cur, h1, _⟩
      · exact ⟨_, _, _, h1⟩
      · exact ⟨_, _, _, h1⟩
    clear hrow
    by_cases hlt : j < A.length
    · obtain ⟨x, hx⟩ : ∃ x, A[j]? = some x := ⟨A[j], List.getElem?_eq_getElem hlt⟩
      obtain ⟨ad, cp, e1, g1, g2, g3, g4, g5⟩ := (HA.out.keep hB).cells hx
      injection e1 with e2 e3 e4
      subst e2; subst e4
      have gab : (ad.add (j * 4)).block < wr.heap.size := by rw [add_block]; exact g1
      have HX : Hid (((A.take (j + 1)).map bareF).flatMap cOp = ((A.take j).map bareF).flatMap cOp ++ cOp (bareF x)) := Go.Lib.hid (by
        rw [take_snoc_op hx, List.map_append, List.flatMap_append]; simp)
      have HBR := Go.Lib.hid (bare_any x wr)
      clear hx hB e3
      generalize bareF x = Y at *
      generalize ((A.take j).map bareF).flatMap cOp = C at *
      go_wp2_with fail
      refine HBR.out.mono ?_
      rintro e w2 ⟨rfl, hb⟩
      have HB2 := Go.Lib.hid hb
      have HR2 := Go.Lib.hid (row_alloc (row_keep HR.out hb) (.cells #[.int .i64 Y.kind, .int .u64 Y.key, .int .u64 Y.val, .int .i64 Y.n] 48))
      have z2 := hb.size
      clear hb g2 g3 g4 g5 gab g1
      obtain ⟨i0, hi, hz0, hz1, hz2⟩ := info_parts op_info
      go_wp2_with (at_builtin; refine wpList_append_own _ rfl _ _ 45 rfl w.heap.size 48 i0 (.agg #[.int .i64 0, .int .u64 0, .int .u64 0, .int .i64 0]) 4 32 Tryd.underlying45 hi hz0 hz1 hz2 rfl (by decide) _ _ _ rfl HR2.out ⟨w2.heap.size, 0, none⟩ 1 1 (cOp Y) rfl rfl (cells_new0 _ _ _) (by simp [Value.oneCell']) (by unfold maxLen; omega) (by omega) (by simp; omega) ?_; intro v' w3 hown' hgrow _; have HO' := Go.Lib.hid hown'; have HG := Go.Lib.hid hgrow; clear hown' hgrow)
      go_roundw
      case rel =>
        refine ⟨j + 1, by omega, by go_num, by rw [HX.out]; exact HO'.out, ?_, ?_⟩
        · refine below_grown ?_ (Nat.le_refl _) HG.out (row_own HR.out)
          exact (HB.out.trans (HB2.out.mono HB.out.size)).alloc (by have := HB2.out.size; have := HB.out.size; omega) _
        · have := HG.out.size
          simp only [World.size_alloc] at this
          omega
      case measure => simp [intOf]; omega
    · have e : j = A.length := by omega
      subst e
      rw [List.take_length] at HR
      have hun : un = A.length := by
        rcases HR.out.2 with ⟨q, q2⟩ | ⟨g, cap, cur, q, _⟩
        · injection q with e1 e2 e3; rw [e2]; omega
        · injection q with e1 e2 e3
      subst hun
      have HM : Hid (OL wr (.slice ua A.length uc) (A.map bareF)) := Go.Lib.hid (OL.of_row (base := w.heap.size) (by rw [HLM.out]; exact HR.out) okM.out)
      have HAr := Go.Lib.hid (HA.out.keep hB)
      have HEr := Go.Lib.hid (HE.out.keep hB)
      have HTA : Hid (∀ w, OL w (.slice a A.length cap) A → Env w → Calls Tryd.prog 26 #[.slice a A.length cap] w fun e w' => e = .returned (.string (textF A)) ∧ Below w.heap.size w w') := Go.Lib.hid (fun w h1 h2 => text_any _ _ w (by omega) h1 h2.p10)
      have HTM : Hid (∀ w, OL w (.slice ua A.length uc) (A.map bareF) → Env w → Calls Tryd.prog 26 #[.slice ua A.length uc] w fun e w' => e = .returned (.string (textF A)) ∧ Below w.heap.size w w') := Go.Lib.hid (fun w h1 h2 => by
        have q := text_any _ _ w (by rw [HLM.out]; omega) h1 h2.p10
        rw [HTX.out] at q
        exact q)
      have HSM : Hid (∀ (v v' : Value) w, OL w v (A.map bareF) → OL w v' (A.map bareF) → Calls Tryd.prog 27 #[v, v'] w fun e w' => e = .returned (.bool true) ∧ Below w.heap.size w w') := Go.Lib.hid (fun v v' w h1 h2 => same20_any v v' _ w (by rw [HLM.out]; omega) h1 h2)
      clear hB HTX
      generalize textF A = T at *
      generalize A.map bareF = M at *
      go_wp2_with fail
      refine (HTA.out _ HAr.out HEr.out).mono ?_
      rintro e w2 ⟨rfl, hb⟩
      have HB2 := Go.Lib.hid (HB.out.trans (hb.mono HB.out.size))
      have HE2 := Go.Lib.hid (HEr.out.keep hb)
      have HA2 := Go.Lib.hid (HAr.out.keep hb)
      have HM2 := Go.Lib.hid (HM.out.keep hb)
      clear hb
      go_wp2_with fail
      refine (HPG.out _ HE2.out).mono ?_
      rintro e w3 ⟨vl, rfl, hOL, hb⟩
      have HB3 := Go.Lib.hid (HB2.out.trans (hb.mono HB2.out.size))
      have HE3 := Go.Lib.hid (HE2.out.keep hb)
      have HA3 := Go.Lib.hid (HA2.out.keep hb)
      have HM3 := Go.Lib.hid (HM2.out.keep hb)
      have HO3 := Go.Lib.hid hOL
      clear hb hOL
      go_wp2_with fail
      refine (HSM.out _ _ _ HO3.out HM3.out).mono ?_
      rintro e w4 ⟨rfl, hb⟩
      have HB4 := Go.Lib.hid (HB3.out.trans (hb.mono HB3.out.size))
      have HE4 := Go.Lib.hid (HE3.out.keep hb)
      have HA4 := Go.Lib.hid (HA3.out.keep hb)
      have HM4 := Go.Lib.hid (HM3.out.keep hb)
      clear hb
      go_wp2_with fail
      refine (HTA.out _ HA4.out HE4.out).mono ?_
      rintro e w5 ⟨rfl, hb⟩
      have HB5 := Go.Lib.hid (HB4.out.trans (hb.mono HB4.out.size))
      have HE5 := Go.Lib.hid (HE4.out.keep hb)
      have HM5 := Go.Lib.hid (HM4.out.keep hb)
      clear hb
      go_wp2_with fail
      refine (HTM.out _ HM5.out HE5.out).mono ?_
      rintro e w6 ⟨rfl, hb⟩
      have HB6 := Go.Lib.hid (HB5.out.trans (hb.mono HB5.out.size))
      clear hb
      have q0 : (T.toList == T.toList) = true := by simp
      go_wp2_with fail
      go_ret
      exact ⟨rfl, HB6.out⟩
end Go.Proofs.YtddihnnodegkmaaDoor
