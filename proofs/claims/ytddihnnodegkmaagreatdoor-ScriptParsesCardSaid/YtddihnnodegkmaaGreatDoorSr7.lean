/- ScriptParses: the law's walk. -/
import Derived.Test.YtddihnnodegkmaaGreatDoorSr6
namespace Go.Proofs.YtddihnnodegkmaaGreatDoor
open Go.RowKit Hop
set_option linter.unusedVariables false
set_option linter.unusedSimpArgs false
set_option maxRecDepth 100000
theorem split_len {p x r p' x' r'} (h : (p ++ x :: r : List ByteArray) = p' ++ x' :: r') (hp : ∀ l ∈ p, okL l = true) (hx : okL x = false) (hp' : ∀ l ∈ p', okL l = true) (hx' : okL x' = false) : p'.length = p.length := by
  induction p generalizing p' with
  | nil =>
    cases p' with
    | nil => rfl
    | cons y q =>
      have e1 : x = y := by simpa using (List.cons.inj h).1
      have := hp' y (by simp)
      rw [← e1, hx] at this
      cases this
  | cons z p ih =>
    cases p' with
    | nil =>
      have e1 : z = x' := by simpa using (List.cons.inj h).1
      have := hp z (by simp)
      rw [e1, hx'] at this
      cases this
    | cons y q =>
      have := ih (List.cons.inj h).2 (fun l hl => hp l (by simp [hl])) (fun l hl => hp' l (by simp [hl]))
      simp [this]
theorem rparse_good (s : ByteArray) (w : World) (hs : s.size ≤ 100000) (hok : ∀ l ∈ lnF s.size s, okL l = true) :
    Calls Tryz.prog 11 #[.string s] w fun e w' => ∃ v, e = .returned (.tuple #[v, .int .i64 0]) ∧ OL w' v ((lnF s.size s).map rdF) ∧ Below w.heap.size w w' := by
  refine (rparse_any s w hs).mono ?_
  rintro e w' ⟨hsaid, hb⟩
  rcases hsaid with ⟨v, rfl, _, hr⟩ | ⟨p, x, r, rfl, h1, h2, h3⟩
  · refine ⟨v, rfl, OL.of_row (base := w.heap.size) (by rw [List.length_map]; exact hr) ?_, hb⟩
    intro x hx
    obtain ⟨l, _, rfl⟩ := List.mem_map.1 hx
    exact rdF_ok l
  · have := hok x (by rw [h1]; simp)
    rw [this] at h3
    cases h3
theorem rparse_bad (s : ByteArray) (w : World) (hs : s.size ≤ 100000) (p : List ByteArray) (x : ByteArray) (r : List ByteArray) (hl : lnF s.size s = p ++ x :: r) (hp : ∀ l ∈ p, okL l = true) (hx : okL x = false) :
    Calls Tryz.prog 11 #[.string s] w fun e w' => e = .returned (.tuple #[.slice none 0 0, .int .i64 ((p.length : Int) + 1)]) ∧ Below w.heap.size w w' := by
  refine (rparse_any s w hs).mono ?_
  rintro e w' ⟨hsaid, hb⟩
  rcases hsaid with ⟨v, rfl, hall, hr⟩ | ⟨p', x', r', rfl, h1, h2, h3⟩
  · have := hall x (by rw [hl]; simp)
    rw [this] at hx
    cases hx
  · rw [split_len (hl.symm.trans h1) hp hx h2 h3]
    exact ⟨rfl, hb⟩
set_option maxHeartbeats 6400000 in
theorem parses_any (s : ByteArray) (w : World) (h : Env w) (h63 : s.size ≤ maxLen) : Calls Tryz.prog 4 #[.string s] w fun e w' => e = .returned (.bool true) ∧ Below w.heap.size w w' := by
  have HE := Go.Lib.hid h
  unfold maxLen at h63
  clear h
  go_enter Tryz.func4, Tryz.ntmps4
  go_wp2_with fail
  refine (awake20_any w HE.out).mono ?_
  rintro e w1 ⟨rfl, hb⟩
  have HB1 := Go.Lib.hid hb
  have HE1 := Go.Lib.hid (HE.out.keep hb)
  clear hb
  by_cases hbig : 300 < s.size
  · go_wp2_with fail
    go_ret
    exact ⟨rfl, HB1.out⟩
  · rcases bad_split (lnF s.size s) with hall | ⟨p, x, r, q1, q2, q3⟩
    · have HP : Hid (Calls Tryz.prog 10 #[.string s] w1 fun e w' => ∃ v, e = .returned (.tuple #[v, .nilIface]) ∧ OL w' v ((lnF s.size s).map rdF) ∧ Below w1.heap.size w1 w') := Go.Lib.hid ((parse_good s w1 (by omega) HE1.out hall).mono (by
        rintro e w' ⟨v, h1, h2, _, h3⟩
        exact ⟨v, h1, h2, h3⟩))
      have HRP := Go.Lib.hid (fun w => rparse_good s w (by omega) hall)
      have HN : Hid (((lnF s.size s).map rdF).length ≤ s.size) := Go.Lib.hid (by rw [List.length_map]; exact (lnF_size s.size s rfl).2)
      clear hall
      generalize (lnF s.size s).map rdF = L at *
      go_wp2_with fail
      refine HP.out.mono ?_
      rintro e w2 ⟨v, rfl, hOL, hb⟩
      have HO := Go.Lib.hid hOL
      have HB2 := Go.Lib.hid (HB1.out.trans (hb.mono HB1.out.size))
      clear hb hOL
      go_wp2_with fail
      refine (HRP.out _).mono ?_
      rintro e w3 ⟨m, rfl, hOL, hb⟩
      have HO3 := Go.Lib.hid (HO.out.keep hb)
      have HM3 := Go.Lib.hid hOL
      have HB3 := Go.Lib.hid (HB2.out.trans (hb.mono HB2.out.size))
      clear hb hOL
      go_wp2_with fail
      refine (field_nil _).mono ?_
      rintro e w4 ⟨rfl, hb⟩
      have HO4 := Go.Lib.hid (HO3.out.keep hb)
      have HM4 := Go.Lib.hid (HM3.out.keep hb)
      have HB4 := Go.Lib.hid (HB3.out.trans (hb.mono HB3.out.size))
      clear hb
      go_wp2_with fail
      refine (same20_any v m L w4 (by have := HN.out; omega) HO4.out HM4.out).mono ?_
      rintro e w5 ⟨rfl, hb⟩
      have HB5 := Go.Lib.hid (HB4.out.trans (hb.mono HB4.out.size))
      clear hb
      go_wp2_with fail
      go_ret
      exact ⟨rfl, HB5.out⟩
    · have HP := Go.Lib.hid (parse_bad s w1 (by omega) HE1.out p x r q1 q2 q3)
      have HRP := Go.Lib.hid (fun w => rparse_bad s w (by omega) p x r q1 q2 q3)
      clear q1 q2 q3
      have pz : (p.length : Int) + 1 ≠ 0 := by omega
      have sl : sLine.toList = [108, 105, 110, 101] := by rw [ByteArray.toList_eq]; rfl
      have pq : ((p.length : Int) + 1 == 0) = false := by rw [beq_eq_false_iff_ne]; omega
      go_wp2_with fail
      refine HP.out.mono ?_
      rintro e w2 ⟨b, rfl, hbad, hb⟩
      have HB2 := Go.Lib.hid (HB1.out.trans (hb.mono HB1.out.size))
      have HE2 := Go.Lib.hid (HE1.out.keep hb)
      have HBD := Go.Lib.hid hbad
      clear hb hbad
      go_wp2_with fail
      refine (HRP.out _).mono ?_
      rintro e w3 ⟨rfl, hb⟩
      have HB3 := Go.Lib.hid (HB2.out.trans (hb.mono HB2.out.size))
      have HE3 := Go.Lib.hid (HE2.out.keep hb)
      have HBD3 := Go.Lib.hid (HBD.out.keep hb)
      clear hb
      go_wp2_with fail
      refine (field_bad b sLine _ _ w3 HBD3.out HE3.out.et).mono ?_
      rintro e w4 ⟨rfl, hb⟩
      have HB4 := Go.Lib.hid (HB3.out.trans (hb.mono HB3.out.size))
      have HBD4 := Go.Lib.hid (HBD3.out.keep hb)
      clear hb
      go_wp2_with fail
      refine (eIs_any 3 3 true rfl 1 _ w4 (Ch.one HBD4.out)).mono ?_
      rintro e w5 ⟨rfl, rfl⟩
      go_wp2_with fail
      go_ret
      exact ⟨rfl, HB4.out⟩
end Go.Proofs.YtddihnnodegkmaaGreatDoor
