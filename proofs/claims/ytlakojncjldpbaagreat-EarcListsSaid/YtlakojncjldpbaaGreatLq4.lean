/- A key at a list's front, by the library. -/
import Derived.Test.YtlakojncjldpbaaGreatLq3
namespace Go.Proofs.YtlakojncjldpbaaGreat
open Go.RowKit Hop
set_option linter.unusedVariables false
set_option linter.unusedSimpArgs false
set_option maxRecDepth 100000
def setAll (cs : List Value) : Nat → List Value → List Value
  | _, [] => cs
  | o, v :: r => setAll (cs.set o v) (o + 1) r
theorem setAll_length : ∀ (vs cs : List Value) (o : Nat), (setAll cs o vs).length = cs.length
  | [], _, _ => rfl
  | v :: r, cs, o => by rw [setAll, setAll_length r]; simp
theorem setAll_cons : ∀ (vs : List Value) (x : Value) (cs : List Value) (o : Nat), setAll (x :: cs) (o + 1) vs = x :: setAll cs o vs
  | [], _, _, _ => rfl
  | v :: r, x, cs, o => by
    rw [setAll, setAll, List.set_cons_succ, setAll_cons r]
theorem setAll_zero : ∀ (vs cs : List Value), vs.length ≤ cs.length → setAll cs 0 vs = vs ++ cs.drop vs.length
  | [], cs, _ => by simp [setAll]
  | v :: r, [], h => by simp at h
  | v :: r, c :: cs, h => by
    rw [setAll, List.set_cons_zero, setAll_cons, setAll_zero r cs (by simpa using h)]
    simp
theorem blk_setCells {b : Nat} {T : Nat} : ∀ (vs cs : List Value) (o : Nat) {w : World}, Blk w b cs T → Blk (w.setCells b o vs) b (setAll cs o vs) T
  | [], _, _, _, h => h
  | v :: r, cs, o, w, h => blk_setCells r (cs.set o v) (o + 1) (h.set o v)
theorem below_setCells {B b : Nat} {w : World} : ∀ (vs : List Value) (o : Nat) {w1 : World}, Below B w w1 → B ≤ b → Below B w (w1.setCells b o vs)
  | [], _, _, h, _ => h
  | v :: r, o, w1, h, hb => below_setCells r (o + 1) (h.setCell (p := ⟨b, o, none⟩) hb v) hb
set_option maxHeartbeats 800000 in
theorem ins_nil (v1 vl : Value) (k : Int) (w : World) (n₀ : Nat) (hn : n₀ ≤ w.heap.size) (h : KL w v1 []) (ho : ∀ g, v1.ownBlock = some g → n₀ ≤ g) (hl : KL w vl [k]) :
    Calls Tryz.prog 121 #[v1, .int .i64 0, vl] w fun e w' => ∃ v', e = .returned v' ∧ KL w' v' [k] ∧ (∀ g, v'.ownBlock = some g → n₀ ≤ g) ∧ Below n₀ w w' := by
  have HH := Go.Lib.hid h
  have HL := Go.Lib.hid hl
  have HO := Go.Lib.hid ho
  obtain ⟨a, cap, rfl⟩ := h.form
  obtain ⟨al, cl, rfl⟩ := hl.form
  have hc : 0 ≤ cap := Nat.zero_le _
  have hm1 := hl.le
  simp only [List.length_nil, List.length_cons, Nat.zero_add] at *
  clear h hl ho
  go_enter Tryz.func121, Tryz.ntmps121
  go_wp2_with (at_builtin; refine wpList_append_two _ rfl (.tmp 23) (.tmp 24) 27 rfl 32 (.int .u64 0) 1 8 Tryz.underlying27 u64_info rfl (by decide) (.slice a 0 cap) 0 [] rfl HH.out (.slice al 1 cl) 1 [.int .u64 k] rfl HL.out (keys_one [k]) ?b1 ?b2 ?next)
  case b1 => unfold maxLen; omega
  case b2 => omega
  case next =>
    intro v2 w2 r1 r2 r3
    have B2 := below_fr (Below.refl n₀ w) r2 hn (fun i hi => HO.out i hi)
    have O2 : ∀ b, v2.ownBlock = some b → n₀ ≤ b := by
      intro b hb
      rcases r3 b hb with h | h
      · exact HO.out b h
      · omega
    have HN := Go.Lib.hid (⟨r1, O2, B2⟩ : Row w2 32 1 v2 1 [.int .u64 k] ∧ (∀ g, v2.ownBlock = some g → n₀ ≤ g) ∧ Below n₀ w w2)
    clear B2 O2 r1 r2 r3
    go_wp2_with fail
    go_ret
    exact ⟨_, rfl, HN.out.1, HN.out.2.1, HN.out.2.2⟩
theorem one_keys (L : List Int) : ∀ u ∈ L.map (Value.int .u64), u.oneCell' = true := keys_one L
theorem ins_any (vb : Nat) (v1 : Value) (A : List Int) (k : Int) (w : World) (n₀ : Nat) (hsm : A.length < 100000) (hn : n₀ ≤ w.heap.size) (h : KL w v1 A) (ho : ∀ g, v1.ownBlock = some g → n₀ ≤ g ∧ g ≠ vb) (hv : Blk w vb [.int .u64 k] 32) :
    Calls Tryz.prog 121 #[v1, .int .i64 0, .slice (some ⟨vb, 0, none⟩) 1 1] w fun e w' => ∃ v', e = .returned v' ∧ KL w' v' (k :: A) ∧ (∀ g, v'.ownBlock = some g → n₀ ≤ g) ∧ Below n₀ w w' := by
  have hl : KL w (.slice (some ⟨vb, 0, none⟩) 1 1) [k] := ⟨rfl, .inr ⟨vb, 1, _, rfl, hv, Nat.le_refl _, by decide, by simp, rfl⟩⟩
  by_cases hA : A = []
  · subst hA
    exact ins_nil v1 _ k w n₀ hn h (fun g hg => (ho g hg).1) hl
  have hpos : 0 < A.length := List.length_pos_iff.2 hA
  rcases h.2 with ⟨_, h0⟩ | ⟨g, cap, cs, rfl, hb, h1, h2, h3, h4⟩
  · omega
  have hg := ho g rfl
  simp only [Nat.mul_one] at h3 h4
  unfold maxLen at h2
  have hml : (A.map (Value.int .u64)).length = A.length := by simp
  have hcs : ∀ j v, (A.map (Value.int .u64))[j]? = some v → w.cell? ⟨g, 0 + j, none⟩ = some v := by
    intro j v hj
    rw [Nat.zero_add, hb.cell j]
    have hjl : j < A.length := by
      have := (List.getElem?_eq_some_iff.1 hj).1
      simpa using this
    have q : (cs.take A.length)[j]? = (A.map (Value.int .u64))[j]? := by rw [h4]
    rw [List.getElem?_take, if_pos hjl, hj] at q
    exact q
  have hvs : ∀ j v, [Value.int .u64 k][j]? = some v → w.cell? ⟨vb, 0 + j, none⟩ = some v := by
    intro j v hj
    rw [Nat.zero_add, hv.cell j]; exact hj
  have ek : ((k :: A).map (Value.int .u64)) = Value.int .u64 k :: A.map (Value.int .u64) := rfl
  by_cases hroom : A.length + 1 ≤ cap
  · have q := ins_shift g 0 A.length cap 0 vb 0 1 1 (A.map (Value.int .u64)) [.int .u64 k] w hpos (by omega) hroom (by omega) (fun e => hg.2 e.symm) hml rfl hcs
      (fun j hj => by rw [Nat.zero_add, hb.cell j, List.getElem?_eq_getElem (by omega)]; rfl) (fun j hj => by rw [Nat.zero_add]; exact hb.frozen j) hvs (keys_one A) (keys_one [k])
      32 32 1 cs.length (by unfold World.shape?; rw [show w.heap[vb]? = _ from hv]; rfl) (by unfold World.shape?; rw [show w.heap[g]? = _ from hb]; simp) (by omega) (hv.frozen 0) (hv.frozen 1)
    refine q.mono ?_
    rintro e w' ⟨rfl, rfl⟩
    have b1 := blk_setCells ((A.map (Value.int .u64)).drop 0) cs (0 + (0 + 1)) hb.drew
    have b2 := blk_setCells [Value.int .u64 k] _ (0 + 0) b1
    refine ⟨_, rfl, ⟨by simp, .inr ⟨g, cap, _, rfl, b2, by simpa using hroom, by unfold maxLen; omega, ?_, ?_⟩⟩, (fun g' hg' => by
      have e : g = g' := by simpa [Value.ownBlock] using hg'
      omega), below_setCells _ _ (below_setCells _ _ (Below.refl _ _).drew hg.1) hg.1⟩
    · rw [setAll_length, setAll_length]; omega
    · cases cs with
      | nil => simp at h3; omega
      | cons c r =>
        have hr : ((A.map (Value.int .u64)).drop 0).length ≤ r.length := by simp at h3 ⊢; omega
        rw [show (0 + (0 + 1)) = 0 + 1 from rfl, setAll_cons, setAll_zero _ _ hr]
        have e0 : ∀ (c x : Value) (r : List Value), setAll (c :: r) (0 + 0) [x] = x :: r := fun _ _ _ => rfl
        rw [e0, ek, List.length_cons, Nat.mul_one, List.take_succ_cons, List.take_append_of_le_length (by simp)]
        rw [List.take_of_length_le (by simp), List.drop_zero]
  · have q := ins_grow g 0 A.length cap 0 vb 0 1 1 (A.map (Value.int .u64)) [.int .u64 k] w hpos (by omega) h1 (by omega) (by omega) hml rfl hcs hvs (keys_one A) (keys_one [k])
    refine q.mono ?_
    rintro e w' ⟨rfl, rfl⟩
    have hG1 := grownCap_ge w (A.length + 1) cap 32
    have hG2 := grownCap_le_maxLen w (A.length + 1) cap 32 (by unfold maxLen; omega)
    generalize grownCap w (A.length + 1) cap 32 = G at *
    obtain ⟨R, hR⟩ : ∃ R : Array Value, R = ((A.map (Value.int .u64)).take 0).toArray ++ Builtin.zeroCells (Value.int .u64 0).cells (A.length + 1 - 0) ++ Builtin.zeroCells (Value.int .u64 0).cells (G - (A.length + 1)) := ⟨_, rfl⟩
    rw [← hR]
    have hRs : R.toList.length = G := by
      rw [hR]
      simp [Builtin.zeroCells, Value.cells]
      omega
    have b0 : Blk (w.alloc (.cells R 32)).drew w.heap.size R.toList 32 := by
      have q := Blk.new0 w R.toList 32
      rw [Array.toArray_toList] at q
      exact q.drew
    have b1 := (blk_setCells [Value.int .u64 k] _ 0 b0).drew
    have b2 := blk_setCells ((A.map (Value.int .u64)).drop 0) _ (0 + 1) b1
    have B0 : Below n₀ w (w.alloc (.cells R 32)).drew := ((Below.refl n₀ w).alloc hn _).drew
    refine ⟨_, rfl, ⟨by simp, .inr ⟨w.heap.size, G, _, rfl, b2, by simpa using hG1, hG2, ?_, ?_⟩⟩, (fun g' hg' => by
      have e : w.heap.size = g' := by simpa [Value.ownBlock] using hg'
      omega), below_setCells _ _ (below_setCells _ _ B0 hn).drew hn⟩
    · rw [setAll_length, setAll_length, hRs]; omega
    · cases hRl : R.toList with
      | nil => rw [hRl] at hRs; simp at hRs; omega
      | cons c r =>
        rw [hRl] at hRs
        have hr : ((A.map (Value.int .u64)).drop 0).length ≤ r.length := by simp at hRs ⊢; omega
        have e0 : ∀ (c x : Value) (r : List Value), setAll (c :: r) 0 [x] = x :: r := fun _ _ _ => rfl
        rw [e0, setAll_cons, setAll_zero _ _ hr, ek, List.length_cons, Nat.mul_one, List.take_succ_cons, List.take_append_of_le_length (by simp)]
        rw [List.take_of_length_le (by simp), List.drop_zero]
end Go.Proofs.YtlakojncjldpbaaGreat
