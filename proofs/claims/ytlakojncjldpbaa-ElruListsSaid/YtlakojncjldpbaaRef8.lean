/- The reference of lru: New, Touch, Admit, Drop, Resize, Do. -/
import Derived.Test.YtlakojncjldpbaaRef3
namespace Go.Proofs.Ytlakojncjldpbaa
open Go.RowKit Hop
set_option linter.unusedVariables false
set_option linter.unusedSimpArgs false
set_option maxRecDepth 100000
set_option maxHeartbeats 800000 in
theorem r8new_any (c : Int) (w : World) :
    Calls Try.prog 21 #[.int .i64 c] w fun e w' => e = .returned (.agg #[.int .i64 (capF c), .slice none 0 0]) ∧ Below w.heap.size w w' := by
  have HB := Go.Lib.hid ((Below.refl w.heap.size w).alloc (Nat.le_refl _) (.cells #[.int .i64 (capF c), .slice none 0 0] 28))
  go_enter Try.func21, Try.ntmps21
  go_wp2_with fail
  refine (cap_any c _).mono ?_
  rintro e w1 ⟨rfl, rfl⟩
  go_wp2_with fail
  refine bodyPost_ret (v := .agg #[.int .i64 (capF c), .slice none 0 0]) (by simp [results, Try.results21, go_sem]) rfl ⟨rfl, HB.out⟩
theorem KL.set_ne {w : World} {v : Value} {L : List Int} (h : KL w v L) {B o : Nat} (hne : ∀ b, v.ownBlock = some b → b ≠ B) (u : Value) : KL (w.setCell ⟨B, o, none⟩ u) v L :=
  Row.frame h (own := fun k => k = B) ((Fr.refl (fun k => k = B) w).setEq rfl u) hne
theorem KL.ne {w : World} {v : Value} {L : List Int} (h : KL w v L) {B : Nat} {cs : List Value} {T : Nat} (hb : Blk w B cs T) (hT : 31 ≠ T) : ∀ b, v.ownBlock = some b → b ≠ B := by
  intro b hv
  obtain ⟨_, cs', h'⟩ := Row.lt h hv
  exact h'.ne hb hT
theorem below_set {B : Nat} {a b : World} (h : Below B a b) {x o : Nat} (hx : B ≤ x) (u : Value) : Below B a (b.setCell ⟨x, o, none⟩ u) := h.setCell (p := ⟨x, o, none⟩) hx u
def touchL (L : List Int) (k : Int) : List Int := if k ∈ L then k :: wo L k else L
set_option maxHeartbeats 1600000 in
theorem r8touch_any (c : Int) (v : Value) (L : List Int) (k : Int) (w : World) (hsm : L.length < 50000) (h : KL w v L) :
    Calls Try.prog 112 #[.agg #[.int .i64 c, v], .int .u64 k] w fun e w' => ∃ v', e = .returned (.agg #[.int .i64 c, v']) ∧ KL w' v' (touchL L k) ∧ Below w.heap.size w w' := by
  obtain ⟨a, cap, rfl⟩ := h.form
  generalize hv : Value.slice a L.length cap = v at *
  have B0 := ((Below.refl w.heap.size w).alloc (Nat.le_refl _) (.cells #[.int .i64 c, v] 28)).alloc (by simp) (.cells #[.int .i64 0, .slice none 0 0] 28)
  obtain ⟨W, hW⟩ : ∃ W, W = (w.alloc (.cells #[.int .i64 c, v] 28)).alloc (.cells #[.int .i64 0, .slice none 0 0] 28) := ⟨_, rfl⟩
  have b0 : Blk W w.heap.size [.int .i64 c, v] 28 := by rw [hW]; exact (Blk.new0 w [.int .i64 c, v] 28).alloc _
  have b1 : Blk W (w.heap.size + 1) [.int .i64 0, .slice none 0 0] 28 := by rw [hW]; exact Blk.new1 w (.cells #[.int .i64 c, v] 28) [.int .i64 0, .slice none 0 0] 28
  rw [← hW] at B0
  have hHW : KL W v L := h.keep B0
  have HH := Go.Lib.hid hHW
  have HB0 := Go.Lib.hid B0
  have HT : Hid (touchL L k = if k ∈ L then k :: wo L k else L) := Go.Lib.hid rfl
  have hA := has_any v L k W hHW
  have HA := Go.Lib.hid hA
  have HW := Go.Lib.hid hW
  have Hb0 := Go.Lib.hid b0
  have Hb1 := Go.Lib.hid b1
  subst hv
  clear hA hHW hW b0 b1 B0 h
  go_enter Try.func112, Try.ntmps112
  go_wp2_with fail
  rw [← HW.out]
  refine HA.out.mono ?_
  by_cases hk : k ∈ L
  · have hd : decide (k ∈ L) = true := decide_eq_true hk
    rw [hd]
    rw [if_pos hk] at HT
    clear hk hd
    rintro e w1 ⟨rfl, rfl⟩
    have c00 := Hb0.out.cell 0
    have c01 := Hb0.out.cell 1
    simp only [List.getElem?_cons_zero, List.getElem?_cons_succ] at c00 c01
    have l0 := Hb0.out.lt
    go_wp2_with fail
    refine (front_any _ L k W hsm HH.out).mono ?_
    rintro e w2 ⟨v2, rfl, hk2, ho2, hb2⟩
    obtain ⟨a2, cap2, rfl⟩ := hk2.form
    have b0 := Hb0.out.keep hb2
    have b1 := Hb1.out.keep hb2
    have d0 := b0.cell 0
    have d1 := b0.cell 1
    have d2 := b1.cell 0
    have d3 := b1.cell 1
    have f1 := b0.frozen 1
    have f2 := b1.frozen 0
    have f3 := b1.frozen 1
    simp only [List.getElem?_cons_zero, List.getElem?_cons_succ] at d0 d1 d2 d3
    have l0 := b0.lt
    have l1 := b1.lt
    have HK2 := Go.Lib.hid hk2
    have HB2 := Go.Lib.hid (HB0.out.trans (hb2.mono HB0.out.size))
    have N0 := Go.Lib.hid (hk2.ne b0 (by decide))
    have N1 := Go.Lib.hid (hk2.ne b1 (by decide))
    clear b0 b1 hk2 ho2 hb2 c00 c01
    go_wp2_with fail
    refine bodyPost_ret (v := .agg #[.int .i64 c, .slice a2 (k :: wo L k).length cap2]) (by simp [results, Try.results112, go_sem, d0, d1, d2, d3]) rfl ⟨_, rfl, ?_, ?_⟩
    · rw [HT.out]
      exact ((HK2.out.set_ne N0.out _).set_ne N1.out _).set_ne N1.out _
    · exact below_set (below_set (below_set HB2.out (Nat.le_refl _) _) (Nat.le_succ _) _) (Nat.le_succ _) _
  · have hd : decide (k ∈ L) = false := decide_eq_false hk
    rw [hd]
    rw [if_neg hk] at HT
    clear hk hd
    rintro e w1 ⟨rfl, rfl⟩
    have c00 := Hb0.out.cell 0
    have c01 := Hb0.out.cell 1
    have d0 := Hb1.out.cell 0
    have d1 := Hb1.out.cell 1
    have f0 := Hb1.out.frozen 0
    have f1 := Hb1.out.frozen 1
    simp only [List.getElem?_cons_zero, List.getElem?_cons_succ] at c00 c01 d0 d1
    have l0 := Hb0.out.lt
    have l1 := Hb1.out.lt
    go_wp2_with fail
    refine bodyPost_ret (v := .agg #[.int .i64 c, .slice a L.length cap]) (by simp [results, Try.results112, go_sem, d0, d1]) rfl ⟨_, rfl, ?_, ?_⟩
    · rw [HT.out]
      have N1 := HH.out.ne Hb1.out (by decide)
      exact (HH.out.set_ne N1 _).set_ne N1 _
    · exact below_set (below_set HB0.out (Nat.le_succ _) _) (Nat.le_succ _) _
set_option maxHeartbeats 1600000 in
theorem r8drop_any (c : Int) (v : Value) (L : List Int) (k : Int) (w : World) (hsm : L.length < 50000) (h : KL w v L) :
    Calls Try.prog 114 #[.agg #[.int .i64 c, v], .int .u64 k] w fun e w' => ∃ v', e = .returned (.agg #[.int .i64 c, v']) ∧ KL w' v' (wo L k) ∧ Below w.heap.size w w' := by
  obtain ⟨a, cap, rfl⟩ := h.form
  generalize hv : Value.slice a L.length cap = v at *
  have B0 := ((Below.refl w.heap.size w).alloc (Nat.le_refl _) (.cells #[.int .i64 c, v] 28)).alloc (by simp) (.cells #[.int .i64 0, .slice none 0 0] 28)
  obtain ⟨W, hW⟩ : ∃ W, W = (w.alloc (.cells #[.int .i64 c, v] 28)).alloc (.cells #[.int .i64 0, .slice none 0 0] 28) := ⟨_, rfl⟩
  have b0 : Blk W w.heap.size [.int .i64 c, v] 28 := by rw [hW]; exact (Blk.new0 w [.int .i64 c, v] 28).alloc _
  have b1 : Blk W (w.heap.size + 1) [.int .i64 0, .slice none 0 0] 28 := by rw [hW]; exact Blk.new1 w (.cells #[.int .i64 c, v] 28) [.int .i64 0, .slice none 0 0] 28
  rw [← hW] at B0
  have HH := Go.Lib.hid (h.keep B0)
  have HB0 := Go.Lib.hid B0
  have HW := Go.Lib.hid hW
  have Hb0 := Go.Lib.hid b0
  have Hb1 := Go.Lib.hid b1
  subst hv
  clear hW b0 b1 B0 h
  go_enter Try.func114, Try.ntmps114
  go_wp2_with fail
  rw [← HW.out]
  refine (without_any _ L k W (by omega) HH.out).mono ?_
  rintro e w2 ⟨v2, rfl, hk2, ho2, hb2⟩
  obtain ⟨a2, cap2, rfl⟩ := hk2.form
  have b0 := Hb0.out.keep hb2
  have b1 := Hb1.out.keep hb2
  have d0 := b0.cell 0
  have d1 := b0.cell 1
  have d2 := b1.cell 0
  have d3 := b1.cell 1
  have f1 := b0.frozen 1
  have f2 := b1.frozen 0
  have f3 := b1.frozen 1
  simp only [List.getElem?_cons_zero, List.getElem?_cons_succ] at d0 d1 d2 d3
  have l0 := b0.lt
  have l1 := b1.lt
  have HK2 := Go.Lib.hid hk2
  have HB2 := Go.Lib.hid (HB0.out.trans (hb2.mono HB0.out.size))
  have N0 := Go.Lib.hid (hk2.ne b0 (by decide))
  have N1 := Go.Lib.hid (hk2.ne b1 (by decide))
  clear b0 b1 hk2 ho2 hb2
  go_wp2_with fail
  refine bodyPost_ret (v := .agg #[.int .i64 c, .slice a2 (wo L k).length cap2]) (by simp [results, Try.results114, go_sem, d0, d1, d2, d3]) rfl ⟨_, rfl, ?_, ?_⟩
  · exact ((HK2.out.set_ne N0.out _).set_ne N1.out _).set_ne N1.out _
  · exact below_set (below_set (below_set HB2.out (Nat.le_refl _) _) (Nat.le_succ _) _) (Nat.le_succ _) _
theorem KL.take {w : World} {a : Option Addr} {n cap : Nat} {L : List Int} (h : KL w (.slice a n cap) L) {m : Nat} (hm : m ≤ L.length) : KL w (.slice a m cap) (L.take m) := by
  have hl : (L.take m).length = m := by rw [List.length_take]; omega
  refine ⟨by simp, ?_⟩
  rw [hl]
  rcases h.2 with ⟨h1, h2⟩ | ⟨g, cap', cs, h1, h2, h3, h4, h5, h6⟩
  · injection h1 with e1 e2 e3
    subst e1; subst e3
    exact .inl ⟨by rw [show m = 0 by omega], by omega⟩
  · injection h1 with e1 e2 e3
    subst e1; subst e3
    refine .inr ⟨g, cap, cs, rfl, h2, by omega, h4, h5, ?_⟩
    rw [List.map_take, ← h6, List.take_take]
    congr 1
    omega
/-- The keys that fall off a list's end, the last one first. -/
def fallL (L : List Int) (n : Int) : List Int := (L.drop n.toNat).reverse
set_option maxHeartbeats 3200000 in
theorem r8shrink_any (c : Int) (v : Value) (L : List Int) (n : Int) (w : World) (hn : 0 ≤ n) (hn2 : n < 10000000) (hsm : L.length < 50000) (h : KL w v L) :
    Calls Try.prog 167 #[.agg #[.int .i64 c, v], .int .i64 n] w fun e w' => ∃ v' vo, e = .returned (.tuple #[.agg #[.int .i64 c, v'], vo]) ∧ KL w' v' (L.take n.toNat) ∧ KL w' vo (fallL L n) ∧ Below w.heap.size w w' := by
  obtain ⟨a, cap, rfl⟩ := h.form
  generalize hv : Value.slice a L.length cap = v at *
  have B0 := ((Below.refl w.heap.size w).alloc (Nat.le_refl _) (.cells #[.int .i64 c, v] 28)).alloc (by simp) (.cells #[.int .i64 0, .slice none 0 0] 28)
  obtain ⟨W, hW⟩ : ∃ W, W = (w.alloc (.cells #[.int .i64 c, v] 28)).alloc (.cells #[.int .i64 0, .slice none 0 0] 28) := ⟨_, rfl⟩
  have b0 : Blk W w.heap.size [.int .i64 c, v] 28 := by rw [hW]; exact (Blk.new0 w [.int .i64 c, v] 28).alloc _
  have b1 : Blk W (w.heap.size + 1) [.int .i64 0, .slice none 0 0] 28 := by rw [hW]; exact Blk.new1 w (.cells #[.int .i64 c, v] 28) [.int .i64 0, .slice none 0 0] 28
  rw [← hW] at B0
  have HH := Go.Lib.hid (h.keep B0)
  have HB0 := Go.Lib.hid B0
  have HW := Go.Lib.hid hW
  have Hb0 := Go.Lib.hid b0
  have Hb1 := Go.Lib.hid b1
  subst hv
  clear hW b0 b1 B0
  go_enter Try.func167, Try.ntmps167
  go_wp2_with fail
  rw [← HW.out]
  go_loopg [6] L.length (fun g vo wr => g ≤ L.length ∧ (n.toNat ≤ g ∨ g = L.length) ∧ KL wr vo (fallL L g) ∧ (∀ b, vo.ownBlock = some b → w.heap.size ≤ b) ∧ Blk wr w.heap.size [.int .i64 c, .slice a g cap] 28 ∧ Blk wr (w.heap.size + 1) [.int .i64 0, .slice none 0 0] 28 ∧ Below w.heap.size w wr)
  case atStart => exact ⟨Nat.le_refl _, .inr rfl, by unfold fallL; simp; exact KL.nil _, fun b hb => (by cases hb), Hb0.out, Hb1.out, HB0.out⟩
  case round =>
    obtain ⟨hg, hng, hko, hoo, hb0, hb1, hbb⟩ := hrel
    have c0 := hb0.cell 0
    have c1 := hb0.cell 1
    have d0 := hb1.cell 0
    have d1 := hb1.cell 1
    have f0 := hb1.frozen 0
    have f1 := hb1.frozen 1
    have f2 := hb0.frozen 1
    simp only [List.getElem?_cons_zero, List.getElem?_cons_succ] at c0 c1 d0 d1
    have l0 := hb0.lt
    have l1 := hb1.lt
    have hv0 : KL wr (.slice a L.length cap) L := h.keep hbb
    have HKO := Go.Lib.hid hko
    have HOO := Go.Lib.hid hoo
    have HB0 := Go.Lib.hid hb0
    have HB1 := Go.Lib.hid hb1
    have HBB := Go.Lib.hid hbb
    have HV := Go.Lib.hid (hv0.take hg)
    have HN := Go.Lib.hid hng
    by_cases hlt : n < gk
    · obtain ⟨j, rfl⟩ : ∃ j, gk = j + 1 := ⟨gk - 1, by omega⟩
      obtain ⟨g, x, rfl, q1, q2, q3, q4, q5⟩ := hv0.get (j := j) (by omega)
      rw [q4] at HV
      have HBK := Go.Lib.hid (back_key _ (L.take j) x wr HV.out)
      have hfl : fallL L j = fallL L (j + 1 : Nat) ++ [x] := by
        unfold fallL
        have e : L.drop j = x :: L.drop (j + 1) := by
          have hjl : j < L.length := by omega
          rw [List.drop_eq_getElem_cons hjl]
          rw [List.getElem?_eq_getElem hjl] at q5
          rw [Option.some.inj q5]
        simp only [Int.toNat_natCast]
        rw [e, List.reverse_cons]
      have HFL := Go.Lib.hid hfl
      have hfn : (fallL L (j + 1 : Nat)).length < 50000 := by
        unfold fallL; simp; omega
      unfold maxLen at q2
      clear hko hoo hb0 hb1 hbb hng hv0 q4 q5 hfl
      go_wp2_with fail
      refine HBK.out.mono ?_
      rintro e w1 ⟨rfl, rfl⟩
      go_wp2_with (at_builtin; refine wpList_append_row _ rfl (.tmp 12) (.tmp 16) 26 rfl 31 (.int .u64 0) 1 8 Try.underlying26 u64_info rfl (by decide) _ _ _ rfl (Row.keep HKO.out ((Below.refl _ _).alloc (Nat.le_refl _) _)) ⟨wr.heap.size, 0, none⟩ 1 1 [.int .u64 x] rfl (by decide) rfl ?c1 ?c2 ?b1 ?b2 ?next)
      case c1 => intro i u hu; match i, hu with | 0, hu => simp at hu; subst hu; simp [Addr.add]
      case c2 => intro u hu; simp at hu; subst hu; rfl
      case b1 => unfold maxLen; omega
      case b2 => omega
      case next =>
        intro g' cap' w3 hr3 hf3 hg3
        have B3 := HBB.out.alloc HBB.out.size (.cells #[.int .u64 x] 31)
        have B4 := below_fr B3 hf3 (Nat.le_refl _) HOO.out
        have sz := HBB.out.size
        have b0 : Blk w3 w.heap.size [.int .i64 c, .slice (some ⟨g, 0, none⟩) (j + 1) cap] 28 := hf3.blk (fun hb => HKO.out.ne HB0.out (by decide) _ hb rfl) (HB0.out.alloc _)
        have b1 : Blk w3 (w.heap.size + 1) [.int .i64 0, .slice none 0 0] 28 := hf3.blk (fun hb => HKO.out.ne HB1.out (by decide) _ hb rfl) (HB1.out.alloc _)
        have K3 : KL w3 (.slice (some ⟨g', 0, none⟩) ((fallL L (j + 1 : Nat)).length + 1) cap') (fallL L j) := by
          unfold KL
          rw [HFL.out, List.map_append, List.length_append]
          exact hr3
        have N3 := K3.ne b0 (by decide)
        have O3 : ∀ b, (Value.slice (some ⟨g', 0, none⟩) ((fallL L (j + 1 : Nat)).length + 1) cap').ownBlock = some b → w.heap.size ≤ b := by
          intro b hb
          have e : g' = b := by simpa [Value.ownBlock] using hb
          subst e
          rcases hg3 with h | h
          · exact HOO.out _ h
          · omega
        have c0' := b0.cell 0
        have c1' := b0.cell 1
        have f2' := b0.frozen 1
        simp only [List.getElem?_cons_zero, List.getElem?_cons_succ] at c0' c1'
        have l0' := b0.lt
        have l1' := b1.lt
        have R0 := b0.set 1 (.slice (some ⟨g, 0, none⟩) j cap)
        have R1 := b1.set_ne (a := ⟨w.heap.size, 1, none⟩) (by show w.heap.size + 1 ≠ w.heap.size; omega) (.slice (some ⟨g, 0, none⟩) j cap)
        have HR0 := Go.Lib.hid R0
        have HR1 := Go.Lib.hid R1
        have HK3 := Go.Lib.hid (K3.set_ne (o := 1) N3 (.slice (some ⟨g, 0, none⟩) j cap))
        have HO3 := Go.Lib.hid O3
        have HB4 := Go.Lib.hid (below_set (o := 1) B4 (Nat.le_refl _) (.slice (some ⟨g, 0, none⟩) j cap))
        have HN2 : Hid (n.toNat ≤ j) := Go.Lib.hid (by omega)
        clear B3 B4 b0 b1 K3 N3 O3 R0 R1 hr3 hf3 hg3 c0 c1 d0 d1 f0 f1 f2 l0 l1
        go_wp2_with fail
        go_roundg j
        case rel => exact ⟨by omega, .inl HN2.out, HK3.out, HO3.out, HR0.out, HR1.out, HB4.out⟩
        case measure => omega
    · have ht : L.take n.toNat = L.take gk := by
        rcases hng with h | h
        · rw [show gk = n.toNat by omega]
        · rw [h, List.take_length, List.take_of_length_le (by omega)]
      have hfl : fallL L n = fallL L gk := by
        unfold fallL
        rcases hng with h | h
        · rw [show ((gk : Nat) : Int).toNat = n.toNat by omega]
        · rw [h]
          simp only [Int.toNat_natCast, List.drop_length]
          rw [List.drop_eq_nil_of_le (by omega)]
      have HT := Go.Lib.hid ht
      have HFL := Go.Lib.hid hfl
      have HN1 := Go.Lib.hid (hko.ne hb1 (by decide))
      have HN2 := Go.Lib.hid (HV.out.ne hb1 (by decide))
      obtain ⟨ao, capo, rfl⟩ := hko.form
      clear hko hoo hb0 hb1 hbb hng hv0 ht hfl
      go_wp2_with fail
      refine bodyPost_ret (v := .tuple #[.agg #[.int .i64 c, .slice a gk cap], .slice ao (fallL L gk).length capo]) (by simp [results, Try.results167, go_sem, d0, d1]) rfl ⟨_, _, rfl, ?_, ?_, ?_⟩
      · rw [HT.out]
        exact (HV.out.set_ne HN2.out _).set_ne HN2.out _
      · rw [HFL.out]
        exact (HKO.out.set_ne HN1.out _).set_ne HN1.out _
      · exact below_set (below_set HBB.out (Nat.le_succ _) _) (Nat.le_succ _) _
def admitL (c : Int) (L : List Int) (k : Int) : List Int := if k ∈ L then L else k :: wo (L.take (c - 1).toNat) k
def admitO (c : Int) (L : List Int) (k : Int) : List Int := if k ∈ L then [] else fallL L (c - 1)
set_option maxHeartbeats 3200000 in
theorem r8admit_any (c : Int) (v : Value) (L : List Int) (k : Int) (w : World) (hc : 1 ≤ c ∧ c ≤ 1048576) (hsm : L.length < 50000) (h : KL w v L) :
    Calls Try.prog 113 #[.agg #[.int .i64 c, v], .int .u64 k] w fun e w' => ∃ v' vo, e = .returned (.tuple #[.agg #[.int .i64 c, v'], vo]) ∧ KL w' v' (admitL c L k) ∧ KL w' vo (admitO c L k) ∧ Below w.heap.size w w' := by
  obtain ⟨hc1, hc2⟩ := hc
  obtain ⟨a, cap, rfl⟩ := h.form
  generalize hv : Value.slice a L.length cap = v at *
  have B0 := ((Below.refl w.heap.size w).alloc (Nat.le_refl _) (.cells #[.int .i64 c, v] 28)).alloc (by simp) (.cells #[.int .i64 0, .slice none 0 0] 28)
  obtain ⟨W, hW⟩ : ∃ W, W = (w.alloc (.cells #[.int .i64 c, v] 28)).alloc (.cells #[.int .i64 0, .slice none 0 0] 28) := ⟨_, rfl⟩
  have b0 : Blk W w.heap.size [.int .i64 c, v] 28 := by rw [hW]; exact (Blk.new0 w [.int .i64 c, v] 28).alloc _
  have b1 : Blk W (w.heap.size + 1) [.int .i64 0, .slice none 0 0] 28 := by rw [hW]; exact Blk.new1 w (.cells #[.int .i64 c, v] 28) [.int .i64 0, .slice none 0 0] 28
  rw [← hW] at B0
  have hHW : KL W v L := h.keep B0
  have HH := Go.Lib.hid hHW
  have HB0 := Go.Lib.hid B0
  have HT : Hid (admitL c L k = if k ∈ L then L else k :: wo (L.take (c - 1).toNat) k) := Go.Lib.hid rfl
  have HO : Hid (admitO c L k = if k ∈ L then [] else fallL L (c - 1)) := Go.Lib.hid rfl
  have HA := Go.Lib.hid (has_any v L k W hHW)
  have HW := Go.Lib.hid hW
  have Hb0 := Go.Lib.hid b0
  have Hb1 := Go.Lib.hid b1
  subst hv
  clear hHW hW b0 b1 B0 h
  go_enter Try.func113, Try.ntmps113
  go_wp2_with fail
  rw [← HW.out]
  refine HA.out.mono ?_
  by_cases hk : k ∈ L
  · have hd : decide (k ∈ L) = true := decide_eq_true hk
    rw [hd]
    rw [if_pos hk] at HT HO
    clear hk hd
    rintro e w1 ⟨rfl, rfl⟩
    have c00 := Hb0.out.cell 0
    have c01 := Hb0.out.cell 1
    have d0 := Hb1.out.cell 0
    have d1 := Hb1.out.cell 1
    have f0 := Hb1.out.frozen 0
    have f1 := Hb1.out.frozen 1
    simp only [List.getElem?_cons_zero, List.getElem?_cons_succ] at c00 c01 d0 d1
    have l0 := Hb0.out.lt
    have l1 := Hb1.out.lt
    go_wp2_with fail
    refine bodyPost_ret (v := .tuple #[.agg #[.int .i64 c, .slice a L.length cap], .slice none 0 0]) (by simp [results, Try.results113, go_sem, d0, d1]) rfl ⟨_, _, rfl, ?_, ?_, ?_⟩
    · rw [HT.out]
      have N1 := HH.out.ne Hb1.out (by decide)
      exact (HH.out.set_ne N1 _).set_ne N1 _
    · rw [HO.out]
      exact KL.nil _
    · exact below_set (below_set HB0.out (Nat.le_succ _) _) (Nat.le_succ _) _
  · have hd : decide (k ∈ L) = false := decide_eq_false hk
    rw [hd]
    rw [if_neg hk] at HT HO
    clear hk hd
    rintro e w1 ⟨rfl, rfl⟩
    have c00 := Hb0.out.cell 0
    have c01 := Hb0.out.cell 1
    simp only [List.getElem?_cons_zero, List.getElem?_cons_succ] at c00 c01
    have l0 := Hb0.out.lt
    have l1 := Hb1.out.lt
    go_wp2_with fail
    refine (r8shrink_any c _ L (c - 1) W (by omega) (by omega) hsm HH.out).mono ?_
    rintro e w2 ⟨v2, vo, rfl, hk2, hko, hb2⟩
    have hl2 : (L.take (c - 1).toNat).length < 50000 := by rw [List.length_take]; omega
    obtain ⟨a2, cap2, rfl⟩ := hk2.form
    obtain ⟨ao, capo, rfl⟩ := hko.form
    generalize L.take (c - 1).toNat = L2 at *
    generalize fallL L (c - 1) = FO at *
    have b0 := Hb0.out.keep hb2
    have b1 := Hb1.out.keep hb2
    have n12 : ¬ (w.heap.size + 1 = w2.heap.size) := by have := b1.lt; omega
    have n21 : ¬ (w2.heap.size = w.heap.size + 1) := by omega
    have B2 := HB0.out.trans (hb2.mono HB0.out.size)
    have B3 := B2.alloc B2.size (.cells #[.int .i64 c, .slice a2 L2.length cap2] 28)
    have sz := B2.size
    have HB3 := Go.Lib.hid B3
    have Hb2 : Hid (Blk (w2.alloc (.cells #[.int .i64 c, .slice a2 L2.length cap2] 28)) w2.heap.size [.int .i64 c, .slice a2 L2.length cap2] 28) := Go.Lib.hid (Blk.new0 w2 [.int .i64 c, .slice a2 L2.length cap2] 28)
    have Hb1' := Go.Lib.hid (b1.alloc (.cells #[.int .i64 c, .slice a2 L2.length cap2] 28))
    have HK2 := Go.Lib.hid (hk2.keep ((Below.refl _ _).alloc (Nat.le_refl _) (.cells #[.int .i64 c, .slice a2 L2.length cap2] 28)))
    have HKO := Go.Lib.hid (hko.keep ((Below.refl _ _).alloc (Nat.le_refl _) (.cells #[.int .i64 c, .slice a2 L2.length cap2] 28)))
    clear b0 b1 hk2 hko hb2 B2 B3 c00 c01
    go_wp2_with fail
    refine (front_any _ L2 k _ hl2 HK2.out).mono ?_
    rintro e w3 ⟨v3, rfl, hk3, ho3, hb3⟩
    obtain ⟨a3, cap3, rfl⟩ := hk3.form
    have b2 := Hb2.out.keep hb3
    have b1 := Hb1'.out.keep hb3
    have d0 := b2.cell 0
    have d1 := b2.cell 1
    have d2 := b1.cell 0
    have d3 := b1.cell 1
    have f1 := b2.frozen 1
    have f2 := b1.frozen 0
    have f3 := b1.frozen 1
    simp only [List.getElem?_cons_zero, List.getElem?_cons_succ] at d0 d1 d2 d3
    have l2 := b2.lt
    have l3 := b1.lt
    have HK3 := Go.Lib.hid hk3
    have ko3 := HKO.out.keep hb3
    have HKO3 := Go.Lib.hid ko3
    have HB4 := Go.Lib.hid (HB3.out.trans (hb3.mono HB3.out.size))
    have N2 := Go.Lib.hid (hk3.ne b2 (by decide))
    have N1 := Go.Lib.hid (hk3.ne b1 (by decide))
    have M2 := Go.Lib.hid (ko3.ne b2 (by decide))
    have M1 := Go.Lib.hid (ko3.ne b1 (by decide))
    clear b2 b1 hk3 ho3 hb3 ko3
    go_wp2_with fail
    refine bodyPost_ret (v := .tuple #[.agg #[.int .i64 c, .slice a3 (k :: wo L2 k).length cap3], .slice ao FO.length capo]) (by simp [results, Try.results113, go_sem, d0, d1, d2, d3, n12, n21]) rfl ⟨_, _, rfl, ?_, ?_, ?_⟩
    · rw [HT.out]
      exact ((HK3.out.set_ne N2.out _).set_ne N1.out _).set_ne N1.out _
    · rw [HO.out]
      exact ((HKO3.out.set_ne M2.out _).set_ne M1.out _).set_ne M1.out _
    · exact below_set (below_set (below_set HB4.out sz _) (Nat.le_succ _) _) (Nat.le_succ _) _
set_option maxHeartbeats 1600000 in
theorem r8resize_any (c : Int) (v : Value) (L : List Int) (n : Int) (w : World) (hsm : L.length < 50000) (h : KL w v L) :
    Calls Try.prog 115 #[.agg #[.int .i64 c, v], .int .i64 n] w fun e w' => ∃ v' vo, e = .returned (.tuple #[.agg #[.int .i64 (capF n), v'], vo]) ∧ KL w' v' (L.take (capF n).toNat) ∧ KL w' vo (fallL L (capF n)) ∧ Below w.heap.size w w' := by
  have hcf : 1 ≤ capF n ∧ capF n ≤ 1048576 := by unfold capF; split <;> (try split) <;> omega
  obtain ⟨hcf1, hcf2⟩ := hcf
  have CA := fun w => cap_any n w
  generalize capF n = cf at *
  have HCA := Go.Lib.hid CA
  clear CA
  obtain ⟨a, cap, rfl⟩ := h.form
  generalize hv : Value.slice a L.length cap = v at *
  have B0 := ((Below.refl w.heap.size w).alloc (Nat.le_refl _) (.cells #[.int .i64 c, v] 28)).alloc (by simp) (.cells #[.int .i64 0, .slice none 0 0] 28)
  obtain ⟨W, hW⟩ : ∃ W, W = (w.alloc (.cells #[.int .i64 c, v] 28)).alloc (.cells #[.int .i64 0, .slice none 0 0] 28) := ⟨_, rfl⟩
  have b0 : Blk W w.heap.size [.int .i64 c, v] 28 := by rw [hW]; exact (Blk.new0 w [.int .i64 c, v] 28).alloc _
  have b1 : Blk W (w.heap.size + 1) [.int .i64 0, .slice none 0 0] 28 := by rw [hW]; exact Blk.new1 w (.cells #[.int .i64 c, v] 28) [.int .i64 0, .slice none 0 0] 28
  rw [← hW] at B0
  have HH := Go.Lib.hid (h.keep B0)
  have HB0 := Go.Lib.hid B0
  have HW := Go.Lib.hid hW
  have Hb0 := Go.Lib.hid b0
  have Hb1 := Go.Lib.hid b1
  subst hv
  clear hW b0 b1 B0 h
  go_enter Try.func115, Try.ntmps115
  go_wp2_with fail
  rw [← HW.out]
  refine (HCA.out W).mono ?_
  rintro e w1 ⟨rfl, rfl⟩
  have c00 := Hb0.out.cell 0
  have c01 := Hb0.out.cell 1
  have f0 := Hb0.out.frozen 0
  simp only [List.getElem?_cons_zero, List.getElem?_cons_succ] at c00 c01
  have l0 := Hb0.out.lt
  have l1 := Hb1.out.lt
  have N0 := HH.out.ne Hb0.out (by decide)
  have K1 := HH.out.set_ne (o := 0) N0 (.int .i64 cf)
  have b1 := Hb1.out.set_ne (a := ⟨w.heap.size, 0, none⟩) (by show w.heap.size + 1 ≠ w.heap.size; omega) (.int .i64 cf)
  have HK1 := Go.Lib.hid K1
  have Hb1' := Go.Lib.hid b1
  have HB1 := Go.Lib.hid (below_set (o := 0) HB0.out (Nat.le_refl _) (.int .i64 cf))
  clear N0 K1 b1
  go_wp2_with fail
  refine (r8shrink_any cf _ L cf _ (by omega) (by omega) hsm HK1.out).mono ?_
  rintro e w2 ⟨v2, vo, rfl, hk2, hko, hb2⟩
  obtain ⟨a2, cap2, rfl⟩ := hk2.form
  obtain ⟨ao, capo, rfl⟩ := hko.form
  generalize hL2 : L.take cf.toNat = L2 at *
  generalize hFO : fallL L cf = FO at *
  have HL2 := Go.Lib.hid hL2
  have HFO := Go.Lib.hid hFO
  clear hL2 hFO
  have b1 := Hb1'.out.keep hb2
  have d2 := b1.cell 0
  have d3 := b1.cell 1
  have f2 := b1.frozen 0
  have f3 := b1.frozen 1
  simp only [List.getElem?_cons_zero, List.getElem?_cons_succ] at d2 d3
  have l3 := b1.lt
  have HK2 := Go.Lib.hid hk2
  have HKO := Go.Lib.hid hko
  have HB2 := Go.Lib.hid (HB1.out.trans (hb2.mono HB1.out.size))
  have N1 := Go.Lib.hid (hk2.ne b1 (by decide))
  have M1 := Go.Lib.hid (hko.ne b1 (by decide))
  clear b1 hk2 hko hb2 c00 c01 f0
  go_wp2_with fail
  refine bodyPost_ret (v := .tuple #[.agg #[.int .i64 cf, .slice a2 L2.length cap2], .slice ao FO.length capo]) (by simp [results, Try.results115, go_sem, d2, d3]) rfl ⟨_, _, rfl, ?_, ?_, ?_⟩
  · rw [HL2.out]
    exact (HK2.out.set_ne N1.out _).set_ne N1.out _
  · rw [HFO.out]
    exact (HKO.out.set_ne M1.out _).set_ne M1.out _
  · exact below_set (below_set HB2.out (Nat.le_succ _) _) (Nat.le_succ _) _
end Go.Proofs.Ytlakojncjldpbaa
