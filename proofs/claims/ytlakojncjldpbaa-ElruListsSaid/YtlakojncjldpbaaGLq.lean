/- Lists of keys by the library: Contains, Clone. -/
import Derived.Test.YtlakojncjldpbaaRef2
import Derived.Lib.SliceRun
import Derived.Test.YtlakojncjldpbaaShD
namespace Go.Proofs.Ytlakojncjldpbaa
open Go.RowKit Hop
set_option linter.unusedVariables false
set_option linter.unusedSimpArgs false
set_option maxRecDepth 100000
theorem slindex_any (v : Value) (L : List Int) (k : Int) (w : World) (h : KL w v L) :
    Calls Try.prog 226 #[v, .int .u64 k] w fun e w' => (∃ n : Int, e = .returned (.int .i64 n) ∧ (k ∈ L ∧ 0 ≤ n ∨ k ∉ L ∧ n = -1)) ∧ w = w' := by
  obtain ⟨a, cap, rfl⟩ := h.form
  have hle := h.le
  have HH := Go.Lib.hid h
  clear h
  unfold maxLen at hle
  go_enter Try.func226, Try.ntmps226
  go_wp2_with fail
  go_loop [8] (fun i => ∃ j : Nat, j ≤ L.length ∧ i = .int .i64 j ∧ k ∉ L.take j) (fun i => L.length - (intOf i).toNat)
  case atStart => exact ⟨0, by omega, rfl, by simp⟩
  case round =>
    obtain ⟨j, hj, rfl, hno⟩ := hrel
    by_cases hlt : j < L.length
    · obtain ⟨g, rfl, hc1, hc2, hcell⟩ := HH.out.cell hlt
      have hl := HH.out.lt (b := g) rfl
      have htk : L.take (j + 1) = L.take j ++ [L[j]] := by rw [List.take_add_one, List.getElem?_eq_getElem hlt]; rfl
      by_cases hk : L[j] = k
      · have HM := Go.Lib.hid (show k ∈ L by rw [← hk]; exact List.getElem_mem hlt)
        rw [hk] at hcell
        clear hno htk hk
        go_wp2_with fail
        go_ret
        exact ⟨⟨j, rfl, .inl ⟨HM.out, by omega⟩⟩, rfl⟩
      · have hn : k ∉ L.take (j + 1) := by
          rw [htk]
          simp only [List.mem_append, List.mem_singleton]
          rintro (h | h)
          · exact hno h
          · exact hk h.symm
        have HN := Go.Lib.hid hn
        have hk' : ¬ k = L[j] := fun h => hk h.symm
        clear hn hno htk
        go_wp2_with fail
        go_round
        case rel => exact ⟨j + 1, by omega, by go_num, HN.out⟩
        case measure => simp [intOf]; omega
    · have e : j = L.length := by omega
      subst e
      rw [List.take_length] at hno
      have HM := Go.Lib.hid hno
      clear hno
      go_wp2_with fail
      go_ret
      exact ⟨⟨-1, rfl, .inr ⟨HM.out, rfl⟩⟩, rfl⟩
set_option maxHeartbeats 800000 in
theorem slcontains_any (v : Value) (L : List Int) (k : Int) (w : World) (h : KL w v L) :
    Calls Try.prog 194 #[v, .int .u64 k] w fun e w' => e = .returned (.bool (decide (k ∈ L))) ∧ w = w' := by
  have HI := Go.Lib.hid (slindex_any v L k w h)
  clear h
  go_enter Try.func194, Try.ntmps194
  go_wp2_with fail
  refine HI.out.mono ?_
  rintro e w1 ⟨⟨n, rfl, hn⟩, rfl⟩
  rcases hn with ⟨h1, h2⟩ | ⟨h1, h2⟩
  · have HM := Go.Lib.hid (decide_eq_true h1)
    clear h1
    go_wp2_with fail
    go_ret
    exact ⟨by rw [HM.out]; simp [h2], rfl⟩
  · subst h2
    have HM := Go.Lib.hid (decide_eq_false h1)
    clear h1
    go_wp2_with fail
    go_ret
    exact ⟨by rw [HM.out]; rfl, rfl⟩
theorem sqhas_any (v : Value) (L : List Int) (k : Int) (w : World) (h : KL w v L) :
    Calls Try.prog 153 #[v, .int .u64 k] w fun e w' => e = .returned (.bool (decide (k ∈ L))) ∧ w = w' := by
  have HI := Go.Lib.hid (slcontains_any v L k w h)
  clear h
  generalize decide (k ∈ L) = b at *
  go_enter Try.func153, Try.ntmps153
  go_wp2_with fail
  refine HI.out.mono ?_
  rintro e w1 ⟨rfl, rfl⟩
  go_wp2_with fail
  go_ret
  exact ⟨rfl, rfl⟩
/-- What a call makes: a list of its own. -/
def LNew (w w' : World) (v' : Value) (L : List Int) : Prop := KL w' v' L ∧ (∀ b, v'.ownBlock = some b → w.heap.size ≤ b) ∧ Below w.heap.size w w'
set_option maxHeartbeats 800000 in
theorem slclone_any (v : Value) (L : List Int) (w : World) (hsm : L.length < 100000) (h : KL w v L) :
    Calls Try.prog 155 #[v] w fun e w' => ∃ v', e = .returned v' ∧ LNew w w' v' L := by
  have HH := Go.Lib.hid h
  have q26 : ∀ (w : World) (a : Option Addr) (n c n' c' : Nat), (binOp .eql 26 (.slice a n c) (.slice none n' c')).run Try.prog w = .ok (.bool a.isNone) w := fun w a n c n' c' => Go.Lib.run_eql_slice_nil w _ _ a n c n' c' Try.underlying26
  rcases h.2 with ⟨rfl, hn⟩ | ⟨g, cap, cs, rfl, hb, h1, h2, h3, h4⟩
  · have e : L = [] := List.length_eq_zero_iff.1 hn
    subst e
    clear h
    go_enter Try.func155, Try.ntmps155
    go_wp2_with fail
    go_ret
    exact ⟨_, rfl, KL.nil _, (fun b hb => by cases hb), Below.refl _ _⟩
  · have B0 := (Below.refl w.heap.size w).alloc (Nat.le_refl _) (.cells #[] 31)
    have HB0 := Go.Lib.hid B0
    have R0 : Row (w.alloc (.cells #[] 31)) 31 1 (.slice (some ⟨w.heap.size, 0, none⟩) 0 0) 0 [] := ⟨rfl, .inr ⟨w.heap.size, 0, [], rfl, Blk.new0 w [] 31, Nat.le_refl _, by decide, by simp, rfl⟩⟩
    have HR0 := Go.Lib.hid R0
    have HK := Go.Lib.hid (HH.out.keep B0)
    clear h hb h1 h2 h3 h4 B0 R0
    go_enter Try.func155, Try.ntmps155
    go_wp2_with (at_builtin; refine wpList_append_two _ rfl (.tmp 5) (.tmp 6) 26 rfl 31 (.int .u64 0) 1 8 Try.underlying26 u64_info rfl (by decide) (.slice (some ⟨w.heap.size, 0, none⟩) 0 0) 0 [] rfl HR0.out (.slice (some ⟨g, 0, none⟩) L.length cap) L.length (L.map (Value.int .u64)) rfl HK.out (keys_one L) ?b1 ?b2 ?next)
    case b1 => unfold maxLen; omega
    case b2 => omega
    case next =>
      intro v2 w2 r1 r2 r3
      have B2 := below_fr HB0.out r2 (Nat.le_refl _) (by
        intro i hi
        have e : w.heap.size = i := by simpa [Value.ownBlock] using hi
        omega)
      have K2 : KL w2 v2 L := by
        unfold KL
        simpa using r1
      have O2 : ∀ b, v2.ownBlock = some b → w.heap.size ≤ b := by
        intro b hb
        rcases r3 b hb with h | h
        · have e : w.heap.size = b := by simpa [Value.ownBlock] using h
          omega
        · have := HB0.out.size; omega
      have HN : Hid (LNew w w2 v2 L) := Go.Lib.hid ⟨K2, O2, B2⟩
      clear B2 K2 O2 r1 r2 r3
      go_wp2_with fail
      go_ret
      exact ⟨_, rfl, HN.out⟩
end Go.Proofs.Ytlakojncjldpbaa

namespace Go.Proofs.Ytlakojncjldpbaa
open Go.RowKit Hop
set_option linter.unusedVariables false
set_option linter.unusedSimpArgs false
set_option maxRecDepth 100000
theorem sqwo1_any (k x : Int) (b : Nat) (w : World) (h : w.cell? ⟨b, 0, none⟩ = some (.int .u64 k)) :
    Calls Try.prog 197 #[.int .u64 x, .pointer (some ⟨b, 0, none⟩)] w fun e w' => e = .returned (.bool (x == k)) ∧ w = w' := by
  go_enter Try.func197, Try.ntmps197
  go_wp2_with fail
  go_ret
  exact ⟨rfl, rfl⟩
theorem idxf_nil (a : Option Addr) (c : Nat) (fv : Value) (w : World) :
    Calls Try.prog 229 #[.slice a 0 c, fv] w fun e w' => e = .returned (.int .i64 (-1)) ∧ w = w' := by
  go_enter Try.func229, Try.ntmps229
  go_wp2_with fail
  go_loop [8] (fun i => i = .int .i64 0) (fun i => 0)
  case atStart => rfl
  case round =>
    obtain rfl := hrel
    go_wp2_with fail
    go_ret
    exact ⟨rfl, rfl⟩
theorem delf_nil (fv : Value) (w : World) (a : Option Addr) (c : Nat) :
    Calls Try.prog 196 #[.slice a 0 c, fv] w fun e w' => e = .returned (.slice a 0 c) ∧ w = w' := by
  have HI := Go.Lib.hid (idxf_nil a c fv w)
  go_enter Try.func196, Try.ntmps196
  go_wp2_with fail
  refine HI.out.mono ?_
  rintro e w1 ⟨rfl, rfl⟩
  go_wp2_with fail
  go_ret
  exact ⟨rfl, rfl⟩
theorem putRow_heap {w : World} {q g : Nat} {d : Array Int} {i : Nat} (h : i ≠ g) : (Go.Sort.putRow (Value.int .u64) (Go.Sort.ahead w q) g 0 d).heap[i]? = w.heap[i]? := by
  show (w.heap.modify g _)[i]? = _
  rw [Array.getElem?_modify, if_neg (fun e => h e.symm)]
theorem putRow_blk {w : World} {q g : Nat} {d : Array Int} {cs : List Value} {E : Nat} (h : Blk w g cs E) : Blk (Go.Sort.putRow (Value.int .u64) (Go.Sort.ahead w q) g 0 d) g (Go.Sort.putCells (Value.int .u64) 0 d cs.toArray).toList E := by
  show (w.heap.modify g _)[g]? = _
  rw [Array.getElem?_modify, if_pos rfl]
  have h' : w.heap[g]? = some (.cells cs.toArray E) := h
  rw [h']
  rfl
theorem put_take (d : List Int) (cs : List Value) (m : Nat) (hm : m ≤ d.length) (hl : d.length ≤ cs.length) : (Go.Sort.putCells (Value.int .u64) 0 d.toArray cs.toArray).toList.take m = (d.take m).map (Value.int .u64) := by
  apply List.ext_getElem?
  intro j
  rw [List.getElem?_take, List.getElem?_map, List.getElem?_take]
  by_cases hj : j < m
  · rw [if_pos hj, if_pos hj]
    unfold Go.Sort.putCells
    rw [Array.getElem?_toList, Array.getElem?_mapIdx]
    have e1 : cs.toArray[j]? = some (cs[j]'(by omega)) := by simp
    rw [e1, List.getElem?_eq_getElem (show j < d.length by omega)]
    simp
    rw [if_pos (by omega), List.getElem?_eq_getElem (by omega)]
    rfl
  · rw [if_neg hj, if_neg hj]; rfl
theorem wo_kept (L : List Int) (k : Int) : (L.filter fun x => !(x == k)) = wo L k := by
  unfold wo
  apply List.filter_congr
  intro x _
  by_cases h : x = k <;> simp [h]
theorem below_put {B g q : Nat} {w w1 : World} {d : Array Int} (h : Below B w w1) (hg : B ≤ g) : Below B w (Go.Sort.putRow (Value.int .u64) (Go.Sort.ahead w1 q) g 0 d) :=
  ⟨h.os, h.tape, h.output, (by have := h.size; simpa using this), fun k hk => by rw [putRow_heap (by omega)]; exact h.block k hk⟩
theorem delf_any (b : Nat) (v : Value) (L : List Int) (k : Int) (w : World) (n₀ : Nat) (hsm : L.length < 100000) (h : KL w v L) (ho : ∀ g, v.ownBlock = some g → n₀ ≤ g ∧ g ≠ b) (hb : Blk w b [.int .u64 k] 31) :
    Calls Try.prog 196 #[v, .func (.func 197) #[] #[.pointer (some ⟨b, 0, none⟩)]] w fun e w' => ∃ v', e = .returned v' ∧ KL w' v' (wo L k) ∧ (∀ g, v'.ownBlock = some g → n₀ ≤ g) ∧ Below n₀ w w' := by
  rcases h.2 with ⟨rfl, hn⟩ | ⟨g, cap, cs, rfl, hblk, h1, h2, h3, h4⟩
  · have e : L = [] := List.length_eq_zero_iff.1 hn
    subst e
    refine (delf_nil _ w none 0).mono ?_
    rintro e w' ⟨rfl, rfl⟩
    exact ⟨_, rfl, KL.nil _, (fun g hg => by cases hg), Below.refl _ _⟩
  · have hg := ho g rfl
    have hlc : L.length ≤ cs.length := by omega
    have hin : ∀ (W : World) (x : Int), Blk W b [.int .u64 k] 31 → FnGives Try.prog 197 #[.pointer (some ⟨b, 0, none⟩)] #[Value.int .u64 x] (.bool (x == k)) W := fun W x hW =>
      (sqwo1_any k x b W (hW.cell 0)).mono (by rintro e w' ⟨rfl, rfl⟩; exact ⟨rfl, 0, rfl⟩)
    have hlt := hblk.lt
    have q := Try.slices_DeleteFunc (α := Int) (Value.int .u64) (fun x => rfl) (fun x => x == k) 197 #[.pointer (some ⟨b, 0, none⟩)] (enters_of Try.func197 (by kernel_rfl) rfl) 0 (fun w => (Try.zeroValue31 w)) g 0 cap L.toArray w
      (fun W x hW => hin W x (hb.keep hW))
      (fun n os dk x _ => hin _ x (by
        have h1 : Blk (Go.Sort.putRow (Value.int .u64) (Go.Sort.ahead w n) g 0 dk) b [.int .u64 k] 31 := by
          show _ = _
          rw [putRow_heap (by omega)]
          exact hb
        show (Go.Sort.grow _ os).heap[b]? = _
        rw [Go.Sort.heap_grow_old _ _ h1.lt]
        exact h1))
      (fun j hj => by
        have hj' : j < L.length := by simpa using hj
        have c := hblk.cell j
        have e1 : cs[j]? = some (Value.int .u64 L[j]) := by
          have := congrArg (fun l => l[j]?) h4
          simp only [Nat.mul_one] at this
          rw [List.getElem?_take, if_pos hj', List.getElem?_map, List.getElem?_eq_getElem hj'] at this
          exact this
        rw [e1] at c
        refine ⟨?_, ?_⟩
        · rw [Nat.zero_add, c]
          congr 2
          exact (getElem!_pos L.toArray j hj).symm
        · rw [Nat.zero_add]; exact hblk.frozen j)
      (by simp; omega) (by simp; omega)
    simp only [List.size_toArray] at q
    refine q.mono ?_
    rintro e w' ⟨rfl, qn, rfl⟩
    rw [wo_kept]
    have hwo := wo_len L k
    refine ⟨_, rfl, ?_, (fun g' hg' => by
      have e : g = g' := by simpa [Value.ownBlock] using hg'
      omega), below_put (Below.refl _ _) hg.1⟩
    refine ⟨by simp, .inr ⟨g, cap, _, rfl, putRow_blk hblk, by omega, h2, ?_, ?_⟩⟩
    · simp [Go.Sort.putCells]; omega
    · rw [Nat.mul_one, put_take _ cs _ (by simp) (by simp; omega)]
      simp
set_option maxHeartbeats 800000 in
theorem sqwo_any (v : Value) (L : List Int) (k : Int) (w : World) (hsm : L.length < 100000) (h : KL w v L) :
    Calls Try.prog 158 #[v, .int .u64 k] w fun e w' => ∃ v', e = .returned v' ∧ LNew w w' v' (wo L k) := by
  have B0 := (Below.refl w.heap.size w).alloc (Nat.le_refl _) (.cells #[.int .u64 k] 31)
  have HC := Go.Lib.hid (slclone_any v L (w.alloc (.cells #[.int .u64 k] 31)) hsm (h.keep B0))
  have HD := Go.Lib.hid (fun v1 w1 (hk : KL w1 v1 L) ho hb => delf_any w.heap.size v1 L k w1 w.heap.size hsm hk ho hb)
  have HB0 := Go.Lib.hid B0
  have HZ := Go.Lib.hid (Blk.new0 w [.int .u64 k] 31)
  clear h B0
  go_enter Try.func158, Try.ntmps158
  go_wp2_with fail
  refine HC.out.mono ?_
  rintro e w1 ⟨v1, rfl, hk1, ho1, hb1⟩
  have HB1 := Go.Lib.hid (HB0.out.trans (hb1.mono HB0.out.size))
  have HK := Go.Lib.hid (HD.out v1 w1 hk1 (fun g hg => by have := ho1 g hg; simp at this; omega) (HZ.out.keep hb1))
  clear hk1 ho1 hb1 HC HD
  go_wp2_with fail
  refine HK.out.mono ?_
  rintro e w2 ⟨v2, rfl, hk2, ho2, hb2⟩
  have HN : Hid (LNew w w2 v2 (wo L k)) := Go.Lib.hid ⟨hk2, ho2, HB1.out.trans hb2⟩
  clear hk2 ho2 hb2
  go_wp2_with fail
  go_ret
  exact ⟨_, rfl, HN.out⟩
end Go.Proofs.Ytlakojncjldpbaa
