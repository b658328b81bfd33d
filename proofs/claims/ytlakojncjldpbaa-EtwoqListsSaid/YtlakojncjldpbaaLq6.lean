/- seq.Fall. -/
import Derived.Test.YtlakojncjldpbaaLq5
namespace Go.Proofs.Ytlakojncjldpbaa
open Go.RowKit Hop
set_option linter.unusedVariables false
set_option linter.unusedSimpArgs false
set_option maxRecDepth 100000
def fb (L : List Int) (j : Nat) : List Int := (L.drop (L.length - j)).reverse
theorem fb_len (L : List Int) (j : Nat) (h : j ≤ L.length) : (fb L j).length = j := by unfold fb; simp; omega
theorem fb_succ {L : List Int} {i j : Nat} (h : L.length = i + 1 + j) : ∃ x, L[i]? = some x ∧ fb L (j + 1) = fb L j ++ [x] := by
  have hi : i < L.length := by omega
  refine ⟨L[i], List.getElem?_eq_getElem hi, ?_⟩
  unfold fb
  rw [show L.length - (j + 1) = i by omega, show L.length - j = i + 1 by omega, List.drop_eq_getElem_cons hi, List.reverse_cons]
set_option maxHeartbeats 1600000 in
theorem sqfall_less (v : Value) (L : List Int) (N : Nat) (w : World) (hsm : L.length < 50000) (hN : N < L.length) (h : KL w v L) :
    Calls Try.prog 157 #[v, .int .i64 (N : Int)] w fun e w' => ∃ vo v', e = .returned (.tuple #[vo, v']) ∧ KL w' vo (fb L (L.length - N)) ∧ (∀ b, vo.ownBlock = some b → w.heap.size ≤ b) ∧ KL w' v' (L.take N) ∧ (∀ b, v'.ownBlock = some b → w.heap.size ≤ b) ∧ Below w.heap.size w w' := by
  obtain ⟨a, cap, rfl⟩ := h.form
  have hcl : L.length ≤ cap := by
    rcases h.2 with ⟨e, h0⟩ | ⟨g, c, cs, e, h1, h2, h3, h4, h5⟩
    · omega
    · injection e with e1 e2 e3; omega
  have HH := Go.Lib.hid h
  clear h
  have m1 : ¬ ((N : Int) < 0) := by omega
  have m2 : ¬ ((L.length : Int) - (N : Int) < 0) := by omega
  have m3 : max (N : Int) 0 = N := by omega
  have m4 : max ((L.length : Int) - (N : Int)) 0 = (L.length : Int) - (N : Int) := by omega
  go_enter Try.func157, Try.ntmps157
  go_wp2_with fail
  go_loopw [6, 15] (fun u i wr => ∃ j : Nat, j ≤ L.length - N ∧ i = .int .i64 j ∧ KL wr u (fb L j) ∧ (∀ b, u.ownBlock = some b → w.heap.size ≤ b) ∧ Below w.heap.size w wr) (fun _ i _ => L.length - (intOf i).toNat)
  case atStart => exact ⟨0, by omega, rfl, by unfold fb; simp; exact KL.nil _, fun b hb => (by cases hb), Below.refl _ _⟩
  case round =>
    obtain ⟨j, hj, rfl, hr, ho, hb⟩ := hrel
    by_cases hlt : j < L.length - N
    · obtain ⟨i, hi⟩ : ∃ i, L.length = i + 1 + j := ⟨L.length - 1 - j, by omega⟩
      obtain ⟨x, hx, hfb⟩ := fb_succ hi
      have hil : i < L.length := by omega
      obtain ⟨g, rfl, hc1, hc2, hcell⟩ := (HH.out.keep hb).cell hil
      have hl := ((HH.out.keep hb).lt (b := g) rfl).1
      rw [List.getElem?_eq_getElem hil] at hx
      injection hx with hx
      rw [hx] at hcell
      have e1 : (L.length : Int) - 1 - (j : Int) = (i : Int) := by omega
      have e2 : (j : Int) < (L.length : Int) - (N : Int) := by omega
      have e3 : (i : Int) < (L.length : Int) := by omega
      have hfl := fb_len L j (by omega)
      have HT := Go.Lib.hid hfb
      have HFL := Go.Lib.hid hfl
      have HR := Go.Lib.hid hr
      have HO := Go.Lib.hid ho
      have HB := Go.Lib.hid hb
      have HI := Go.Lib.hid hi
      clear hr ho hb hx hfb hi
      go_wp2_with (at_builtin; refine wpList_append_row _ rfl (.tmp 18) (.tmp 27) 26 rfl 31 (.int .u64 0) 1 8 Try.underlying26 u64_info rfl (by decide) _ _ _ rfl (Row.keep HR.out ((Below.refl _ _).alloc (Nat.le_refl _) _)) ⟨wr.heap.size, 0, none⟩ 1 1 [.int .u64 x] rfl (by decide) rfl ?c1 ?c2 ?b1 ?b2 ?next)
      case c1 => intro i u hu; match i, hu with | 0, hu => simp at hu; subst hu; simp [Addr.add]
      case c2 => intro u hu; simp at hu; subst hu; rfl
      case b1 => unfold maxLen; omega
      case b2 => omega
      case next =>
        intro g' cap' w3 hr3 hf3 hg3
        have B3 := HB.out.alloc HB.out.size (.cells #[.int .u64 x] 31)
        have B4 := below_fr B3 hf3 (Nat.le_refl _) HO.out
        have sz := HB.out.size
        have K3 : KL w3 (.slice (some ⟨g', 0, none⟩) (j + 1) cap') (fb L (j + 1)) := by
          unfold KL
          rw [HT.out, List.map_append, List.length_append, HFL.out]
          exact hr3
        have O3 : ∀ b, (Value.slice (some ⟨g', 0, none⟩) (j + 1) cap').ownBlock = some b → w.heap.size ≤ b := by
          intro b hb
          have e : g' = b := by simpa [Value.ownBlock] using hb
          subst e
          rcases hg3 with h | h
          · exact HO.out _ h
          · omega
        have HK3 := Go.Lib.hid K3
        have HO3 := Go.Lib.hid O3
        have HB4 := Go.Lib.hid B4
        clear K3 O3 B4 B3 hr3 hf3 hg3
        go_wp2_with fail
        go_roundw
        case rel => exact ⟨j + 1, by omega, by go_num, HK3.out, HO3.out, HB4.out⟩
        case measure => simp [intOf]; omega
    · have e : j = L.length - N := by omega
      subst e
      have hfl := fb_len L (L.length - N) (by omega)
      obtain ⟨ao, capo, rfl⟩ := hr.form
      have HC := Go.Lib.hid (slclone_any _ (L.take N) wr (by simp; omega) ((HH.out.keep hb).pre (m := N) (by omega)))
      have HR := Go.Lib.hid hr
      have HO := Go.Lib.hid ho
      have HB := Go.Lib.hid hb
      have e1 : (L.length : Int) - ((L.length - N : Nat) : Int) = (N : Int) := by omega
      have e2 : ¬ (((L.length - N : Nat) : Int) < (L.length : Int) - (N : Int)) := by omega
      rw [hfl]
      clear hr ho hb
      go_wp2_with fail
      refine HC.out.mono ?_
      rintro e w1 ⟨v1, rfl, hk1, ho1, hb1⟩
      have HN := Go.Lib.hid (⟨HR.out.keep hb1, HO.out, hk1, fun b hb => by have := ho1 b hb; have := HB.out.size; omega, HB.out.trans (hb1.mono HB.out.size)⟩ : KL w1 (.slice ao (fb L (L.length - N)).length capo) (fb L (L.length - N)) ∧ (∀ b, (Value.slice ao (fb L (L.length - N)).length capo).ownBlock = some b → w.heap.size ≤ b) ∧ KL w1 v1 (L.take N) ∧ (∀ b, v1.ownBlock = some b → w.heap.size ≤ b) ∧ Below w.heap.size w w1)
      have HE := Go.Lib.hid hfl
      clear hk1 ho1 hb1 hfl
      rw [HE.out] at HN
      go_wp2_with fail
      refine bodyPost_ret (v := .tuple #[.slice ao (L.length - N) capo, v1]) (by simp [results, Try.results157, go_sem]) rfl ⟨_, v1, rfl, HN.out⟩
set_option maxHeartbeats 1600000 in
theorem sqfall_all (v : Value) (L : List Int) (N : Nat) (w : World) (hsm : L.length < 50000) (hN : L.length ≤ N) (hN' : N ≤ 9223372036854775807) (h : KL w v L) :
    Calls Try.prog 157 #[v, .int .i64 (N : Int)] w fun e w' => ∃ v', e = .returned (.tuple #[.slice none 0 0, v']) ∧ LNew w w' v' L := by
  obtain ⟨a, cap, rfl⟩ := h.form
  have hcl : L.length ≤ cap := by
    rcases h.2 with ⟨e, h0⟩ | ⟨g, c, cs, e, h1, h2, h3, h4, h5⟩
    · omega
    · injection e with e1 e2 e3; omega
  have HC := Go.Lib.hid (slclone_any _ L w (by omega) h)
  clear h
  have m3 : max (N : Int) 0 = N := by omega
  have m4 : max ((L.length : Int) - (N : Int)) 0 = 0 := by omega
  have m1 : ¬ ((N : Int) < 0) := by omega
  have m5 : -9223372036854775808 ≤ (L.length : Int) - (N : Int) := by omega
  by_cases m6 : (L.length : Int) - (N : Int) < 0
  · go_enter Try.func157, Try.ntmps157
    go_wp2_with fail
    go_loopw [6, 15] (fun u i wr => u = .slice none 0 0 ∧ i = .int .i64 0 ∧ wr = w) (fun _ i _ => 0)
    case atStart => exact ⟨rfl, rfl, rfl⟩
    case round =>
      obtain ⟨rfl, rfl, rfl⟩ := hrel
      go_wp2_with fail
      refine HC.out.mono ?_
      rintro e w1 ⟨v1, rfl, hn⟩
      have HN := Go.Lib.hid hn
      clear hn
      go_wp2_with fail
      refine bodyPost_ret (v := .tuple #[.slice none 0 0, v1]) (by simp [results, Try.results157, go_sem]) rfl ⟨v1, rfl, HN.out⟩
  · have e : (N : Int) = L.length := by omega
    rw [e]
    have m7 : max (L.length : Int) 0 = L.length := by omega
    have m8 : ¬ ((L.length : Int) < 0) := by omega
    clear m1 m3 m4 m5 m6 e
    go_enter Try.func157, Try.ntmps157
    go_wp2_with fail
    go_loopw [6, 15] (fun u i wr => u = .slice none 0 0 ∧ i = .int .i64 0 ∧ wr = w) (fun _ i _ => 0)
    case atStart => exact ⟨rfl, rfl, rfl⟩
    case round =>
      obtain ⟨rfl, rfl, rfl⟩ := hrel
      go_wp2_with fail
      refine HC.out.mono ?_
      rintro e w1 ⟨v1, rfl, hn⟩
      have HN := Go.Lib.hid hn
      clear hn
      go_wp2_with fail
      refine bodyPost_ret (v := .tuple #[.slice none 0 0, v1]) (by simp [results, Try.results157, go_sem]) rfl ⟨v1, rfl, HN.out⟩
/-- Both ways: what fell off, and what is left. -/
theorem sqfall_any (v : Value) (L : List Int) (n : Int) (w : World) (hsm : L.length < 50000) (h0 : 0 ≤ n) (h1 : n ≤ 9223372036854775807) (h : KL w v L) :
    Calls Try.prog 157 #[v, .int .i64 n] w fun e w' => ∃ vo v', e = .returned (.tuple #[vo, v']) ∧ KL w' vo (fallF L n) ∧ (∀ b, vo.ownBlock = some b → w.heap.size ≤ b) ∧ KL w' v' (L.take n.toNat) ∧ (∀ b, v'.ownBlock = some b → w.heap.size ≤ b) ∧ Below w.heap.size w w' := by
  obtain ⟨N, rfl⟩ := Int.eq_ofNat_of_zero_le h0
  by_cases hN : N < L.length
  · refine (sqfall_less v L N w hsm hN h).mono ?_
    rintro e w' ⟨vo, v', rfl, g1, g2, g3, g4, g5⟩
    refine ⟨vo, v', rfl, ?_, g2, g3, g4, g5⟩
    have e : fallF L (N : Int) = fb L (L.length - N) := by
      unfold fallF fb
      rw [show L.length - (L.length - N) = N by omega]; rfl
    rw [e]; exact g1
  · refine (sqfall_all v L N w hsm (by omega) (by omega) h).mono ?_
    rintro e w' ⟨v', rfl, g3, g4, g5⟩
    refine ⟨.slice none 0 0, v', rfl, ?_, (fun b hb => by cases hb), ?_, g4, g5⟩
    · have e : fallF L (N : Int) = [] := by
        unfold fallF
        rw [List.drop_eq_nil_of_le (by simp; omega)]; rfl
      rw [e]; exact KL.nil _
    · rw [List.take_of_length_le (by simp; omega)]; exact g3
end Go.Proofs.Ytlakojncjldpbaa
