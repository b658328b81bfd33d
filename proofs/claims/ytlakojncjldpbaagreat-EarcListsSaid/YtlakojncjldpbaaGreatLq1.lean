/- Lists of keys by the library: Contains, Clone. -/
import Derived.Test.YtlakojncjldpbaaGreatGRef
import Derived.Lib.SliceRun
namespace Go.Proofs.YtlakojncjldpbaaGreat
open Go.RowKit Hop
set_option linter.unusedVariables false
set_option linter.unusedSimpArgs false
set_option maxRecDepth 100000
theorem slindex_any (v : Value) (L : List Int) (k : Int) (w : World) (h : KL w v L) :
    Calls Tryz.prog 155 #[v, .int .u64 k] w fun e w' => (∃ n : Int, e = .returned (.int .i64 n) ∧ (k ∈ L ∧ 0 ≤ n ∨ k ∉ L ∧ n = -1)) ∧ w = w' := by
  obtain ⟨a, cap, rfl⟩ := h.form
  have hle := h.le
  have HH := Go.Lib.hid h
  clear h
  unfold maxLen at hle
  go_enter Tryz.func155, Tryz.ntmps155
  go_wp2_with fail
  go_loop [8] (fun i => ∃ j : Nat, j ≤ L.length ∧ i = .int .i64 j ∧ k ∉ L.take j) (fun i => L.length - (intOf i).toNat)
  case atStart => exact ⟨0, by omega, rfl, by simp⟩
  case round =>
    obtain ⟨j, hj, rfl, hno⟩ := hrel
    by_cases hlt : j < L.length
    · obtain ⟨g, rfl, hc1, hc2, hcell⟩ := HH.out.cell hlt
      have hl := HH.out.lt (b := g) rfl
      have htk : L.take (j + 1) = L.take j ++ [L[j]] := by rw [List.take_add_one, List.getElem?_eq_getElem hlt]; rfl
      by_cases hk : L[j] = k
      · have HM := Go.Lib.hid (show k ∈ L by rw [← hk]; exact List.getElem_mem hlt)
        rw [hk] at hcell
        clear hno htk hk
        go_wp2_with fail
        go_ret
        exact ⟨⟨j, rfl, .inl ⟨HM.out, by omega⟩⟩, rfl⟩
      · have hn : k ∉ L.take (j + 1) := by
          rw [htk]
          simp only [List.mem_append, List.mem_singleton]
          rintro (h | h)
          · exact hno h
          · exact hk h.symm
        have HN := Go.Lib.hid hn
        have hk' : ¬ k = L[j] := fun h => hk h.symm
        clear hn hno htk
        go_wp2_with fail
        go_round
        case rel => exact ⟨j + 1, by omega, by go_num, HN.out⟩
        case measure => simp [intOf]; omega
    · have e : j = L.length := by omega
      subst e
      rw [List.take_length] at hno
      have HM := Go.Lib.hid hno
      clear hno
      go_wp2_with fail
      go_ret
      exact ⟨⟨-1, rfl, .inr ⟨HM.out, rfl⟩⟩, rfl⟩
set_option maxHeartbeats 800000 in
theorem slcontains_any (v : Value) (L : List Int) (k : Int) (w : World) (h : KL w v L) :
    Calls Tryz.prog 117 #[v, .int .u64 k] w fun e w' => e = .returned (.bool (decide (k ∈ L))) ∧ w = w' := by
  have HI := Go.Lib.hid (slindex_any v L k w h)
  clear h
  go_enter Tryz.func117, Tryz.ntmps117
  go_wp2_with fail
  refine HI.out.mono ?_
  rintro e w1 ⟨⟨n, rfl, hn⟩, rfl⟩
  rcases hn with ⟨h1, h2⟩ | ⟨h1, h2⟩
  · have HM := Go.Lib.hid (decide_eq_true h1)
    clear h1
    go_wp2_with fail
    go_ret
    exact ⟨by rw [HM.out]; simp [h2], rfl⟩
  · subst h2
    have HM := Go.Lib.hid (decide_eq_false h1)
    clear h1
    go_wp2_with fail
    go_ret
    exact ⟨by rw [HM.out]; rfl, rfl⟩
theorem sqhas_any (v : Value) (L : List Int) (k : Int) (w : World) (h : KL w v L) :
    Calls Tryz.prog 62 #[v, .int .u64 k] w fun e w' => e = .returned (.bool (decide (k ∈ L))) ∧ w = w' := by
  have HI := Go.Lib.hid (slcontains_any v L k w h)
  clear h
  generalize decide (k ∈ L) = b at *
  go_enter Tryz.func62, Tryz.ntmps62
  go_wp2_with fail
  refine HI.out.mono ?_
  rintro e w1 ⟨rfl, rfl⟩
  go_wp2_with fail
  go_ret
  exact ⟨rfl, rfl⟩
/-- What a call makes: a list of its own. -/
def LNew (w w' : World) (v' : Value) (L : List Int) : Prop := KL w' v' L ∧ (∀ b, v'.ownBlock = some b → w.heap.size ≤ b) ∧ Below w.heap.size w w'
set_option maxHeartbeats 800000 in
theorem slclone_any (v : Value) (L : List Int) (w : World) (hsm : L.length < 100000) (h : KL w v L) :
    Calls Tryz.prog 118 #[v] w fun e w' => ∃ v', e = .returned v' ∧ LNew w w' v' L := by
  have HH := Go.Lib.hid h
  have q26 : ∀ (w : World) (a : Option Addr) (n c n' c' : Nat), (binOp .eql 27 (.slice a n c) (.slice none n' c')).run Tryz.prog w = .ok (.bool a.isNone) w := fun w a n c n' c' => Go.Lib.run_eql_slice_nil w _ _ a n c n' c' Tryz.underlying27
  rcases h.2 with ⟨rfl, hn⟩ | ⟨g, cap, cs, rfl, hb, h1, h2, h3, h4⟩
  · have e : L = [] := List.length_eq_zero_iff.1 hn
    subst e
    clear h
    go_enter Tryz.func118, Tryz.ntmps118
    go_wp2_with fail
    go_ret
    exact ⟨_, rfl, KL.nil _, (fun b hb => by cases hb), Below.refl _ _⟩
  · have B0 := (Below.refl w.heap.size w).alloc (Nat.le_refl _) (.cells #[] 32)
    have HB0 := Go.Lib.hid B0
    have R0 : Row (w.alloc (.cells #[] 32)) 32 1 (.slice (some ⟨w.heap.size, 0, none⟩) 0 0) 0 [] := ⟨rfl, .inr ⟨w.heap.size, 0, [], rfl, Blk.new0 w [] 32, Nat.le_refl _, by decide, by simp, rfl⟩⟩
    have HR0 := Go.Lib.hid R0
    have HK := Go.Lib.hid (HH.out.keep B0)
    clear h hb h1 h2 h3 h4 B0 R0
    go_enter Tryz.func118, Tryz.ntmps118
    go_wp2_with (at_builtin; refine wpList_append_two _ rfl (.tmp 5) (.tmp 6) 27 rfl 32 (.int .u64 0) 1 8 Tryz.underlying27 u64_info rfl (by decide) (.slice (some ⟨w.heap.size, 0, none⟩) 0 0) 0 [] rfl HR0.out (.slice (some ⟨g, 0, none⟩) L.length cap) L.length (L.map (Value.int .u64)) rfl HK.out (keys_one L) ?b1 ?b2 ?next)
    case b1 => unfold maxLen; omega
    case b2 => omega
    case next =>
      intro v2 w2 r1 r2 r3
      have B2 := below_fr HB0.out r2 (Nat.le_refl _) (by
        intro i hi
        have e : w.heap.size = i := by simpa [Value.ownBlock] using hi
        omega)
      have K2 : KL w2 v2 L := by
        unfold KL
        simpa using r1
      have O2 : ∀ b, v2.ownBlock = some b → w.heap.size ≤ b := by
        intro b hb
        rcases r3 b hb with h | h
        · have e : w.heap.size = b := by simpa [Value.ownBlock] using h
          omega
        · have := HB0.out.size; omega
      have HN : Hid (LNew w w2 v2 L) := Go.Lib.hid ⟨K2, O2, B2⟩
      clear B2 K2 O2 r1 r2 r3
      go_wp2_with fail
      go_ret
      exact ⟨_, rfl, HN.out⟩
end Go.Proofs.YtlakojncjldpbaaGreat
