/- The references' functions of lists of keys: Same, Has, Without, Front, Back. -/
import Derived.Test.YtlakojncjldpbaaGSta
namespace Go.Proofs.Ytlakojncjldpbaa
open Go.RowKit Hop
set_option linter.unusedVariables false
set_option linter.unusedSimpArgs false
set_option maxRecDepth 100000
/-- A list of keys lies in a slice. -/
def KL (w : World) (v : Value) (L : List Int) : Prop := Row w 31 1 v L.length (L.map (Value.int .u64))
theorem KL.keep {w w' : World} {v : Value} {L : List Int} (h : KL w v L) (hb : Below w.heap.size w w') : KL w' v L := Row.keep h hb
theorem KL.nil (w : World) : KL w (.slice none 0 0) [] := Row.nil _ _ _
theorem KL.form {w : World} {v : Value} {L : List Int} (h : KL w v L) : ∃ a cap, v = .slice a L.length cap := row_form h
theorem KL.le {w : World} {v : Value} {L : List Int} (h : KL w v L) : L.length ≤ maxLen := by
  rcases h.2 with ⟨_, h2⟩ | ⟨g, cap, cs, h1, h2, h3, h4, h5⟩
  · omega
  · omega
theorem KL.cell {w : World} {a : Option Addr} {n cap : Nat} {L : List Int} (h : KL w (.slice a n cap) L) {j : Nat} (hj : j < L.length) : ∃ g, a = some ⟨g, 0, none⟩ ∧ L.length ≤ cap ∧ cap ≤ maxLen ∧ w.cell? ⟨g, j, none⟩ = some (.int .u64 L[j]) := by
  obtain ⟨a', cap', e⟩ := h.form
  injection e with e1 e2 e3
  subst e2
  obtain ⟨g, h1, h2, h3, h4⟩ := row_cell h hj
  exact ⟨g, h1, h2, h3, by rw [h4]; simp [hj]⟩
set_option maxHeartbeats 800000 in
theorem has_any (v : Value) (L : List Int) (k : Int) (w : World) (h : KL w v L) :
    Calls Try.prog 33 #[v, .int .u64 k] w fun e w' => e = .returned (.bool (decide (k ∈ L))) ∧ w = w' := by
  obtain ⟨a, cap, rfl⟩ := h.form
  have hle := h.le
  have HH := Go.Lib.hid h
  clear h
  unfold maxLen at hle
  go_enter Try.func33, Try.ntmps33
  go_wp2_with fail
  go_loop [5] (fun i => ∃ j : Nat, j ≤ L.length ∧ i = .int .i64 j ∧ k ∉ L.take j) (fun i => L.length - (intOf i).toNat)
  case atStart => exact ⟨0, by omega, rfl, by simp⟩
  case round =>
    obtain ⟨j, hj, rfl, hno⟩ := hrel
    by_cases hlt : j < L.length
    · obtain ⟨g, rfl, hc1, hc2, hcell⟩ := HH.out.cell hlt
      have hl := HH.out.lt (b := g) rfl
      have hx : ∃ x, x = L[j] := ⟨_, rfl⟩
      have htk : L.take (j + 1) = L.take j ++ [L[j]] := by rw [List.take_add_one, List.getElem?_eq_getElem hlt]; rfl
      by_cases hk : L[j] = k
      · have hm : decide (k ∈ L) = true := decide_eq_true (by rw [← hk]; exact List.getElem_mem hlt)
        have HM := Go.Lib.hid hm
        clear hm
        rw [hk] at hcell
        clear hno hx htk hk
        go_wp2_with fail
        go_ret
        exact ⟨by rw [HM.out]; rfl, rfl⟩
      · have hn : k ∉ L.take (j + 1) := by
          rw [htk]
          simp only [List.mem_append, List.mem_singleton]
          rintro (h | h)
          · exact hno h
          · exact hk h.symm
        have HN := Go.Lib.hid hn
        clear hn hno hx htk
        go_wp2_with fail
        go_round
        case rel => exact ⟨j + 1, by omega, by go_num, HN.out⟩
        case measure => simp [intOf]; omega
    · have e : j = L.length := by omega
      subst e
      have hm : decide (k ∈ L) = false := by
        rw [List.take_length] at hno
        exact decide_eq_false hno
      have HM := Go.Lib.hid hm
      clear hno hm
      go_wp2_with fail
      go_ret
      exact ⟨by rw [HM.out]; rfl, rfl⟩
/-- A list without a key. -/
def wo (L : List Int) (k : Int) : List Int := L.filter (fun x => decide (x ≠ k))
theorem wo_len (L : List Int) (k : Int) : (wo L k).length ≤ L.length := List.length_filter_le _ _
set_option maxHeartbeats 1600000 in
theorem without_any (v : Value) (L : List Int) (k : Int) (w : World) (hsm : L.length < 100000) (h : KL w v L) :
    Calls Try.prog 168 #[v, .int .u64 k] w fun e w' => ∃ v', e = .returned v' ∧ KL w' v' (wo L k) ∧ (∀ b, v'.ownBlock = some b → w.heap.size ≤ b) ∧ Below w.heap.size w w' := by
  obtain ⟨a, cap, rfl⟩ := h.form
  have HH := Go.Lib.hid h
  clear h
  go_enter Try.func168, Try.ntmps168
  go_wp2_with fail
  go_loopw [5, 6] (fun v i wr => ∃ j : Nat, j ≤ L.length ∧ i = .int .i64 j ∧ KL wr v (wo (L.take j) k) ∧ (∀ b, v.ownBlock = some b → w.heap.size ≤ b) ∧ Below w.heap.size w wr) (fun _ i _ => L.length - (intOf i).toNat)
  case atStart => exact ⟨0, by omega, rfl, KL.nil _, fun b hb => (by cases hb), Below.refl _ _⟩
  case round =>
    obtain ⟨j, hj, rfl, hr, ho, hb⟩ := hrel
    by_cases hlt : j < L.length
    · obtain ⟨g, rfl, hc1, hc2, hcell⟩ := (HH.out.keep hb).cell hlt
      have hl := ((HH.out.keep hb).lt (b := g) rfl).1
      have htk : L.take (j + 1) = L.take j ++ [L[j]] := by rw [List.take_add_one, List.getElem?_eq_getElem hlt]; rfl
      have htk2 : wo (L.take (j + 1)) k = wo (L.take j) k ++ (if L[j] = k then [] else [L[j]]) := by
        rw [htk]; unfold wo; rw [List.filter_append]; congr 1; by_cases e : L[j] = k <;> simp [e]
      have hwl : (wo (L.take j) k).length < 100000 := by
        have := wo_len (L.take j) k
        have : (L.take j).length ≤ L.length := by rw [List.length_take]; omega
        omega
      have HR := Go.Lib.hid hr
      have HO := Go.Lib.hid ho
      have HB := Go.Lib.hid hb
      by_cases hk : L[j] = k
      · rw [if_pos hk, List.append_nil] at htk2
        have HT := Go.Lib.hid htk2
        rw [hk] at hcell
        clear htk htk2 hr ho hb hk hwl
        go_wp2_with fail
        go_roundw
        case rel => exact ⟨j + 1, by omega, by go_num, by rw [HT.out]; exact HR.out, HO.out, HB.out⟩
        case measure => simp [intOf]; omega
      · rw [if_neg hk] at htk2
        have HT := Go.Lib.hid htk2
        clear htk htk2 hr ho hb
        generalize L[j] = x at *
        go_wp2_with (at_builtin; refine wpList_append_row _ rfl (.tmp 19) (.tmp 24) 26 rfl 31 (.int .u64 0) 1 8 Try.underlying26 u64_info rfl (by decide) _ _ _ rfl (Row.keep HR.out ((Below.refl _ _).alloc (Nat.le_refl _) _)) ⟨wr.heap.size, 0, none⟩ 1 1 [.int .u64 x] rfl (by decide) rfl ?c1 ?c2 ?b1 ?b2 ?next)
        case c1 => intro i u hu; match i, hu with | 0, hu => simp at hu; subst hu; simp [Addr.add]
        case c2 => intro u hu; simp at hu; subst hu; rfl
        case b1 => unfold maxLen; omega
        case b2 => omega
        case next =>
          intro g' cap' w3 hr3 hf3 hg3
          have B3 := HB.out.alloc HB.out.size (.cells #[.int .u64 x] 31)
          have B4 := below_fr B3 hf3 (Nat.le_refl _) HO.out
          have sz := HB.out.size
          have K3 : KL w3 (.slice (some ⟨g', 0, none⟩) ((wo (L.take j) k).length + 1) cap') (wo (L.take (j + 1)) k) := by
            unfold KL
            rw [HT.out, List.map_append, List.length_append]
            exact hr3
          have O3 : ∀ b, (Value.slice (some ⟨g', 0, none⟩) ((wo (L.take j) k).length + 1) cap').ownBlock = some b → w.heap.size ≤ b := by
            intro b hb
            have e : g' = b := by simpa [Value.ownBlock] using hb
            subst e
            rcases hg3 with h | h
            · exact HO.out _ h
            · omega
          have HK3 := Go.Lib.hid K3
          have HO3 := Go.Lib.hid O3
          have HB4 := Go.Lib.hid B4
          clear K3 O3 B4 B3 hr3 hf3 hg3
          go_wp2_with fail
          go_roundw
          case rel => exact ⟨j + 1, by omega, by go_num, HK3.out, HO3.out, HB4.out⟩
          case measure => simp [intOf]; omega
    · have e : j = L.length := by omega
      subst e
      rw [List.take_length] at hr
      go_wp2_with fail
      go_ret
      exact ⟨_, rfl, hr, ho, hb⟩
end Go.Proofs.Ytlakojncjldpbaa
