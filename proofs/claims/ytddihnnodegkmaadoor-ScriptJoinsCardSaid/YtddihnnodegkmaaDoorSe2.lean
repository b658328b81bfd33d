/- ScriptOnce, ScriptJoins: the laws' walks. -/
import Derived.Test.YtddihnnodegkmaaDoorSe1
namespace Go.Proofs.YtddihnnodegkmaaDoor
open Go.RowKit Hop
set_option linter.unusedVariables false
set_option linter.unusedSimpArgs false
set_option maxRecDepth 100000
theorem OL.none (w : World) : OL w (.slice none 0 0) [] := ⟨.none, 0, rfl, by simp, by simp, by simp⟩
set_option maxHeartbeats 3200000 in
theorem once_any (s : ByteArray) (w : World) (h : Env w) (h63 : s.size ≤ maxLen) : Calls Tryd.prog 9 #[.string s] w fun e w' => e = .returned (.bool true) ∧ Below w.heap.size w w' := by
  have HE := Go.Lib.hid h
  unfold maxLen at h63
  clear h
  go_enter Tryd.func9, Tryd.ntmps9
  go_wp2_with fail
  refine (awake20_any w HE.out).mono ?_
  rintro e w1 ⟨rfl, hb⟩
  have HB1 := Go.Lib.hid hb
  have HE1 := Go.Lib.hid (HE.out.keep hb)
  clear hb
  by_cases hbig : 300 < s.size
  · go_wp2_with fail
    go_ret
    exact ⟨rfl, HB1.out⟩
  · rcases bad_split (lnF s.size s) with hall | ⟨p, x, r, q1, q2, q3⟩
    · have HP : Hid (Calls Tryd.prog 25 #[.string s] w1 fun e w' => ∃ v, e = .returned (.tuple #[v, .nilIface]) ∧ OL w' v ((lnF s.size s).map rdF) ∧ Below w1.heap.size w1 w') := Go.Lib.hid ((parse_good s w1 (by omega) HE1.out hall).mono (by rintro e w' ⟨v, h1, h2, _, h3⟩; exact ⟨v, h1, h2, h3⟩))
      have HT := Go.Lib.hid (text_once hall)
      have HN : Hid (((lnF s.size s).map rdF).length ≤ s.size) := Go.Lib.hid (by rw [List.length_map]; exact (lnF_size s.size s rfl).2)
      clear hall
      generalize (lnF s.size s).map rdF = L at *
      go_wp2_with fail
      refine HP.out.mono ?_
      rintro e w2 ⟨v, rfl, hOL, hb⟩
      have HO := Go.Lib.hid hOL
      have HB2 := Go.Lib.hid (HB1.out.trans (hb.mono HB1.out.size))
      have HE2 := Go.Lib.hid (HE1.out.keep hb)
      obtain ⟨a, cap, rfl, _⟩ := hOL
      clear hb
      go_wp2_with fail
      refine (text_any _ _ w2 (by have := HN.out; omega) HO.out HE2.out.p10).mono ?_
      rintro e w3 ⟨rfl, hb⟩
      have HB3 := Go.Lib.hid (HB2.out.trans (hb.mono HB2.out.size))
      clear hb
      generalize eT : textF L = T at *
      clear eT
      by_cases e : T = s
      · subst e
        have q0 : (T.toList == T.toList) = true := by simp
        go_wp2_with fail
        go_ret
        exact ⟨rfl, HB3.out⟩
      · have e2 : T = s ++ ⟨#[10]⟩ := HT.out.resolve_left e
        have q0 : (T.toList == s.toList) = false := by
          rw [beq_eq_false_iff_ne]; exact fun q => e ((str_eq _ _).1 q)
        have q1 : ¬ (9223372036854775807 < s.size + 1) := by omega
        have q2 : (T.toList == (s ++ ⟨#[10]⟩).toList) = true := by rw [e2]; simp
        have d0 : decide (T.toList = s.toList) = false := by simpa using q0
        clear e e2
        go_wp2_with fail
        go_ret
        exact ⟨rfl, HB3.out⟩
    · have HP := Go.Lib.hid (parse_bad s w1 (by omega) HE1.out p x r q1 q2 q3)
      clear q1 q2 q3
      go_wp2_with fail
      refine HP.out.mono ?_
      rintro e w2 ⟨b, rfl, _, hb⟩
      have HB2 := Go.Lib.hid (HB1.out.trans (hb.mono HB1.out.size))
      clear hb
      go_wp2_with fail
      go_ret
      exact ⟨rfl, HB2.out⟩
theorem cutA_head {s : ByteArray} {c : UInt8} {r : List UInt8} (h : s.data.toList = c :: r) (hc : c ≠ 10) : (cutA s).data.toList.head? = some c := by
  show (Lib.cut _ [10]).1.toArray.toList.head? = _
  by_cases hm : (10 : UInt8) ∈ s.data.toList
  · obtain ⟨a, t, e, hn⟩ := List.eq_append_cons_of_mem hm
    rw [e, cut_clean hn]
    cases a with
    | nil =>
      rw [h] at e
      have := (List.cons.inj e).1
      exact absurd this hc
    | cons y a =>
      rw [h] at e
      have := (List.cons.inj e).1
      simp [this]
  · rw [cut_free hm, h]
    rfl
theorem joins_bad (A : List Op4) (s : ByteArray) : ∃ x r, lnF (textF A ++ ⟨#[120]⟩ ++ s).size (textF A ++ ⟨#[120]⟩ ++ s) = A.map lineF ++ x :: r ∧ okL x = false := by
  have e : textF A ++ (⟨#[120]⟩ : ByteArray) ++ s = textF A ++ ((⟨#[120]⟩ : ByteArray) ++ s) := by
    apply ba_ext
    simp only [app_data, List.append_assoc]
  have ed : ((⟨#[120]⟩ : ByteArray) ++ s).data.toList = 120 :: s.data.toList := by rw [app_data]; rfl
  have hne : ((⟨#[120]⟩ : ByteArray) ++ s).size ≠ 0 := by rw [← size_data, ed]; simp
  rw [e, lnF_text, lnF_step _ hne]
  refine ⟨_, _, rfl, ?_⟩
  cases ho : okL (cutA ((⟨#[120]⟩ : ByteArray) ++ s)) with
  | false => rfl
  | true =>
    have h1 := cutA_head ed (by decide)
    rw [← okL_eq ho] at h1
    exact absurd h1 (lineF_head _)
theorem okL_lines {L : List Op4} (h : ∀ x ∈ L, x.ok) : ∀ l ∈ L.map lineF, okL l = true := by
  intro l hl
  obtain ⟨x, hx, rfl⟩ := List.mem_map.1 hl
  exact okL_line (h x hx)
theorem textF_size {L : List Op4} (h : ∀ x ∈ L, x.ok) : (textF L).size ≤ L.length * 61 := by
  rw [← size_data]
  exact textL_length h
theorem OL.ok {w : World} {v : Value} {L : List Op4} (h : OL w v L) : ∀ x ∈ L, x.ok := by
  obtain ⟨_, _, _, _, h, _⟩ := h; exact h
set_option maxHeartbeats 3200000 in
theorem joins_any (v v' : Value) (A B : List Op4) (s : ByteArray) (w : World) (h : Env w) (h63 : s.size ≤ maxLen) (hA : OL w v A) (hB : OL w v' B) : Calls Tryd.prog 10 #[v, v', .string s] w fun e w' => e = .returned (.bool true) ∧ Below w.heap.size w w' := by
  have HE := Go.Lib.hid h
  have HA := Go.Lib.hid hA
  have HB := Go.Lib.hid hB
  have okA := Go.Lib.hid hA.ok
  have okB := Go.Lib.hid hB.ok
  obtain ⟨a, cap, rfl, hm, _, _⟩ := hA
  obtain ⟨a', cap', rfl, hm', _, _⟩ := hB
  unfold maxLen at h63 hm hm'
  clear h
  go_enter Tryd.func10, Tryd.ntmps10
  go_wp2_with fail
  refine (awake20_any w HE.out).mono ?_
  rintro e w1 ⟨rfl, hb⟩
  have HB1 := Go.Lib.hid hb
  have HE1 := Go.Lib.hid (HE.out.keep hb)
  have HA1 := Go.Lib.hid (HA.out.keep hb)
  have HBb1 := Go.Lib.hid (HB.out.keep hb)
  clear hb
  by_cases h1 : 60 < A.length
  · go_wp2_with fail
    go_ret
    exact ⟨rfl, HB1.out⟩
  by_cases h2 : 60 < B.length
  · go_wp2_with fail
    go_ret
    exact ⟨rfl, HB1.out⟩
  by_cases h3 : 20 < s.size
  · go_wp2_with fail
    go_ret
    exact ⟨rfl, HB1.out⟩
  have zA : (textF A).size ≤ 3660 := by have := textF_size okA.out; omega
  have zB : (textF B).size ≤ 3660 := by have := textF_size okB.out; omega
  have zAB : (textF A ++ textF B).size = (textF A).size + (textF B).size := by rw [ByteArray.size_append]
  have zX : (textF A ++ ⟨#[120]⟩).size = (textF A).size + 1 := by rw [ByteArray.size_append]; rfl
  have zXs : (textF A ++ ⟨#[120]⟩ ++ s).size = (textF A).size + 1 + s.size := by rw [ByteArray.size_append, zX]
  have HPG : Hid (∀ w, Env w → Calls Tryd.prog 25 #[.string (textF A ++ textF B)] w fun e w' => ∃ v, e = .returned (.tuple #[v, .nilIface]) ∧ OL w' v ((A ++ B).map bareF) ∧ Below w.heap.size w w') := Go.Lib.hid (fun w hw => by
    have e : lnF (textF A ++ textF B).size (textF A ++ textF B) = (A ++ B).map lineF := by rw [← textF_append, lnF_text0]
    have okAB : ∀ x ∈ A ++ B, x.ok := fun x hx => (List.mem_append.1 hx).elim (okA.out x) (okB.out x)
    refine (parse_good _ w (by omega) hw (by rw [e]; exact okL_lines okAB)).mono ?_
    rintro e' w' ⟨v, h1, h2, _, h3⟩
    refine ⟨v, h1, ?_, h3⟩
    rw [e, List.map_map] at h2
    rw [show (A ++ B).map bareF = (A ++ B).map (rdF ∘ lineF) from List.map_congr_left (fun x hx => (rdF_line (okAB x hx)).symm)]
    exact h2)
  have HPB : Hid (∀ w, Env w → Calls Tryd.prog 25 #[.string (textF A ++ ⟨#[120]⟩ ++ s)] w fun e w' => ∃ b, e = .returned (.tuple #[.slice none 0 0, .iface 38 (.pointer (some ⟨b, 0, none⟩))]) ∧ Blk w' b [.string sLine, .int .i64 ((A.length : Int) + 1), .iface 32 (.int .i64 3)] 40 ∧ Below w.heap.size w w') := Go.Lib.hid (fun w hw => by
    obtain ⟨x, r, e, hx⟩ := joins_bad A s
    refine (parse_bad _ w (by omega) hw (A.map lineF) x r e (okL_lines okA.out) hx).mono ?_
    rintro e' w' ⟨b, h1, h2, h3⟩
    rw [List.length_map] at h2
    exact ⟨b, h1, h2, h3⟩)
  have HTA : Hid (∀ w, OL w (.slice a A.length cap) A → Env w → Calls Tryd.prog 26 #[.slice a A.length cap] w fun e w' => e = .returned (.string (textF A)) ∧ Below w.heap.size w w') := Go.Lib.hid (fun w h1 h2 => text_any _ _ w (by omega) h1 h2.p10)
  have HTB : Hid (∀ w, OL w (.slice a' B.length cap') B → Env w → Calls Tryd.prog 26 #[.slice a' B.length cap'] w fun e w' => e = .returned (.string (textF B)) ∧ Below w.heap.size w w') := Go.Lib.hid (fun w h1 h2 => text_any _ _ w (by omega) h1 h2.p10)
  have HLEN : Hid (((A ++ B).map bareF).length = A.length + B.length) := Go.Lib.hid (by simp)
  clear zAB zX zXs
  have q1 : ¬ (9223372036854775807 < (textF A).size + (textF B).size) := by omega
  have q2 : ¬ (9223372036854775807 < (textF A).size + 1) := by omega
  have q3 : ¬ (9223372036854775807 < (textF A).size + 1 + s.size) := by omega
  generalize textF A = T at *
  generalize textF B = U at *
  generalize (A ++ B).map bareF = L at *
  go_wp2_with fail
  refine (HTA.out _ HA1.out HE1.out).mono ?_
  rintro e w2 ⟨rfl, hb⟩
  have HB2 := Go.Lib.hid (HB1.out.trans (hb.mono HB1.out.size))
  have HE2 := Go.Lib.hid (HE1.out.keep hb)
  have HA2 := Go.Lib.hid (HA1.out.keep hb)
  have HBb2 := Go.Lib.hid (HBb1.out.keep hb)
  clear hb
  go_wp2_with fail
  refine (HTB.out _ HBb2.out HE2.out).mono ?_
  rintro e w3 ⟨rfl, hb⟩
  have HB3 := Go.Lib.hid (HB2.out.trans (hb.mono HB2.out.size))
  have HE3 := Go.Lib.hid (HE2.out.keep hb)
  have HA3 := Go.Lib.hid (HA2.out.keep hb)
  clear hb
  go_wp2_with fail
  refine (HPG.out _ HE3.out).mono ?_
  rintro e w4 ⟨vl, rfl, hOL, hb⟩
  have HB4 := Go.Lib.hid (HB3.out.trans (hb.mono HB3.out.size))
  have HE4 := Go.Lib.hid (HE3.out.keep hb)
  have HA4 := Go.Lib.hid (HA3.out.keep hb)
  obtain ⟨la, lc, rfl, _, _, _⟩ := hOL
  rw [HLEN.out]
  clear hb
  go_wp2_with fail
  refine (HTA.out _ HA4.out HE4.out).mono ?_
  rintro e w5 ⟨rfl, hb⟩
  have HB5 := Go.Lib.hid (HB4.out.trans (hb.mono HB4.out.size))
  have HE5 := Go.Lib.hid (HE4.out.keep hb)
  clear hb
  go_wp2_with fail
  refine (HPB.out _ HE5.out).mono ?_
  rintro e w6 ⟨b, rfl, hbad, hb⟩
  have HB6 := Go.Lib.hid (HB5.out.trans (hb.mono HB5.out.size))
  have HE6 := Go.Lib.hid (HE5.out.keep hb)
  have HBD := Go.Lib.hid hbad
  clear hb hbad
  go_wp2_with fail
  refine (field_bad b sLine _ _ w6 HBD.out HE6.out.et).mono ?_
  rintro e w7 ⟨rfl, hb⟩
  have HB7 := Go.Lib.hid (HB6.out.trans (hb.mono HB6.out.size))
  have HBD7 := Go.Lib.hid (HBD.out.keep hb)
  clear hb
  go_wp2_with fail
  refine (eIs_any 3 3 true rfl 1 _ w7 (Ch.one HBD7.out)).mono ?_
  rintro e w8 ⟨rfl, rfl⟩
  go_wp2_with fail
  go_ret
  exact ⟨rfl, HB7.out⟩
end Go.Proofs.YtddihnnodegkmaaDoor
