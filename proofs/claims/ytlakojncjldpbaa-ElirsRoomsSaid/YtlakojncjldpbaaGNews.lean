/- What is new: an arena, lists, a table. -/
import Derived.Test.YtlakojncjldpbaaTDel
import Derived.Test.YtlakojncjldpbaaGJoin
import Derived.RangeFuncNested
import Derived.RangeFuncBound
import Derived.RangeFuncCalls
import Derived.RangeFuncLeaves
import Derived.RangeFuncBox
import Derived.Shelf.Abstract
import Derived.Shelf.RegionOpen
import Derived.OwnWalkIn
import Derived.TacticsInMore
import Derived.LoopNIn
import Derived.LoopIn
import Derived.Maps.AppendAt
namespace Go.Proofs.Ytlakojncjldpbaa
open Go.RowKit Hop
set_option linter.unusedVariables false
set_option linter.unusedSimpArgs false
set_option maxRecDepth 100000
theorem list_info : (Try.prog.info? 208).map (fun i => (i.zero, i.size, i.bytes)) = some (some (.agg (encL Li.z).toArray), 3, 16) := by kernel_rfl
set_option maxHeartbeats 800000 in
theorem anew_any (w : World) :
    Calls Try.prog 163 #[.int .i64 7] w fun e w' => ∃ pa ba, w.heap.size ≤ pa ∧ w.heap.size ≤ ba ∧ e = .returned (P0 pa) ∧ Below w.heap.size w w' ∧ Blk w' pa [S0 ba (List.replicate 8 Sl.z).length, .slice none 0 0, .int .i64 1, .int .i64 0] 189 ∧ Blk w' ba (flat encS (List.replicate 8 Sl.z)) 201 := by
  go_enter Try.func163, Try.ntmps163
  go_wp2_with (refine wpList_make_rows _ encS Sl.z 7 encS_len (by omega) rfl (.tmp 6) 187 rfl 201 48 Try.underlying187 slot_info 8 8 rfl (by omega) (by omega) (by unfold maxLen; omega) ?_)
  go_ret
  exact ⟨_, _, Nat.le_succ _, Nat.le_refl _, rfl, (((Below.refl _ w).alloc (Nat.le_refl _) _).alloc (by simp) _), Blk.new1 w _ [S0 w.heap.size 8, .slice none 0 0, .int .i64 1, .int .i64 0] 189, (Blk.new0 w (flat encS (List.replicate 8 Sl.z)) 201).alloc _⟩
set_option maxHeartbeats 800000 in
theorem tnew_any (w : World) :
    Calls Try.prog 165 #[] w fun e w' => ∃ pt bt, w.heap.size ≤ pt ∧ w.heap.size ≤ bt ∧ e = .returned (P0 pt) ∧ Below w.heap.size w w' ∧ TRep w' pt bt (List.replicate 8 Ts.z) 0 := by
  go_enter Try.func165, Try.ntmps165
  go_wp2_with (refine wpList_make_rows _ encT Ts.z 3 encT_len (by omega) rfl (.const (.int .i64 8)) 193 rfl 213 16 Try.underlying193 tslot_info 8 8 rfl (by omega) (by omega) (by unfold maxLen; omega) ?_)
  go_ret
  exact ⟨_, _, Nat.le_succ _, Nat.le_refl _, rfl, (((Below.refl _ w).alloc (Nat.le_refl _) _).alloc (by simp) _), ⟨Blk.new1 w _ [S0 w.heap.size 8, .int .i64 0] 195, (Blk.new0 w (flat encT (List.replicate 8 Ts.z)) 213).alloc _⟩⟩
set_option maxHeartbeats 800000 in
theorem lnew_any (pa q : Nat) (w : World) (h1 : 1 ≤ q) (h8 : q ≤ 8) :
    Calls Try.prog 164 #[P0 pa, .int .i64 q] w fun e w' => ∃ pl bl, w.heap.size ≤ pl ∧ w.heap.size ≤ bl ∧ e = .returned (P0 pl) ∧ Below w.heap.size w w' ∧ Blk w' pl [P0 pa, S0 bl (List.replicate q Li.z).length] 192 ∧ Blk w' bl (flat encL (List.replicate q Li.z)) 208 := by
  go_enter Try.func164, Try.ntmps164
  go_wp2_with (refine wpList_make_rows _ encL Li.z 3 encL_len (by omega) rfl (.tmp 8) 190 rfl 208 16 Try.underlying190 list_info q q rfl (by omega) (by omega) (by unfold maxLen; omega) ?_)
  go_ret
  refine ⟨_, _, Nat.le_succ _, Nat.le_refl _, rfl, (((Below.refl _ w).alloc (Nat.le_refl _) _).alloc (by simp) _), ?_, (Blk.new0 w (flat encL (List.replicate q Li.z)) 208).alloc _⟩
  rw [List.length_replicate]
  exact Blk.new1 w _ [P0 pa, S0 w.heap.size q] 192
end Go.Proofs.Ytlakojncjldpbaa

namespace Go.Proofs.Ytlakojncjldpbaa
open Go.RowKit Hop
set_option linter.unusedVariables false
set_option linter.unusedSimpArgs false
def hdD (d : Int) : List Int → Int
  | [] => d
  | x :: _ => x
def lsD (d : Int) : List Int → Int
  | [] => d
  | x :: r => lsD x r
theorem lsD_append (d : Int) : ∀ (a b : List Int), lsD d (a ++ b) = lsD (lsD d a) b := by
  intro a
  induction a generalizing d with
  | nil => intro b; rfl
  | cons x r ih => intro b; exact ih x b
theorem hdD_append (d : Int) (a b : List Int) : hdD d (a ++ b) = hdD (hdD d b) a := by
  cases a <;> rfl
theorem lsD_mem (d : Int) : ∀ (a : List Int), a ≠ [] → lsD d a ∈ a := by
  intro a
  induction a generalizing d with
  | nil => intro h; exact absurd rfl h
  | cons x r ih =>
    intro _
    cases r with
    | nil => simp [lsD]
    | cons y r => exact List.mem_cons_of_mem _ (ih x (by simp))
theorem hdD_mem (d : Int) (a : List Int) (h : a ≠ []) : hdD d a ∈ a := by
  cases a with
  | nil => exact absurd rfl h
  | cons x r => simp [hdD]
/-- A node's links. -/
def lk (S : List Sl) (i t p n : Int) : Prop := isT S i = true ∧ (ndT S i).tag = t + 1 ∧ (ndT S i).prev = p ∧ (ndT S i).next = n
def seg (S : List Sl) (t : Int) : Int → List Int → Int → Prop
  | _, [], _ => True
  | p, x :: r, nx => lk S x t p (hdD nx r) ∧ seg S t x r nx
theorem ndT_up {S : List Sl} {i : Int} (hi : isT S i = true) (f : Nd → Nd) (j : Int) : ndT (up S i f) j = if i = j then f (ndT S i) else ndT S j := by
  obtain ⟨h0, h1, h2⟩ := isT_lt hi
  unfold ndT
  rw [isT_up hi, if_pos hi]
  by_cases hij : i = j
  · subst hij
    rw [if_pos rfl, if_pos hi]
    show (gt (st S i _) i Sl.z).nd = _
    rw [gt_st_same _ _ (by omega) h1]
  · rw [if_neg hij]
    by_cases hj : isT S j = true
    · rw [if_pos hj, if_pos hj]
      have := isT_lt hj
      show (gt (st S i _) j Sl.z).nd = _
      rw [gt_st_ne _ _ (by omega) (by omega) hij]
    · rw [if_neg hj, if_neg hj]
theorem ndT_jS {S : List Sl} {a b : Int} (ha : a = 0 ∨ isT S a = true) (hb : b = 0 ∨ isT S b = true) (j : Int) (hj : j ≠ 0) :
    ndT (jS S a b) j = (if b = j then prevTo a else id) ((if a = j then nextTo b else id) (ndT S j)) := by
  have h1 : ∀ j, j ≠ 0 → ndT (jS1 S a b) j = (if a = j then nextTo b else id) (ndT S j) := by
    intro j hj
    unfold jS1
    by_cases h : a = 0
    · rw [if_pos h, if_neg (by omega)]; rfl
    · rw [if_neg h, ndT_up (ha.resolve_left h)]
      split
      · rename_i e; subst e; rfl
      · rfl
  have h2 : ∀ j, isT (jS1 S a b) j = isT S j := by
    intro j
    unfold jS1
    split
    · rfl
    · rename_i h; exact isT_up (ha.resolve_left h)
  unfold jS
  by_cases h : b = 0
  · rw [if_pos h, if_neg (by omega : ¬ b = j), h1 j hj]; rfl
  · rw [if_neg h, ndT_up (by rw [h2]; exact hb.resolve_left h)]
    by_cases e : b = j
    · subst e; rw [if_pos rfl, if_pos rfl, h1 b hj]
    · rw [if_neg e, if_neg e, h1 j hj]; rfl
theorem seg_congr {S S' : List Sl} {t : Int} : ∀ {c : List Int} {p nx : Int}, (∀ x ∈ c, isT S' x = isT S x ∧ (ndT S' x).tag = (ndT S x).tag ∧ (ndT S' x).prev = (ndT S x).prev ∧ (ndT S' x).next = (ndT S x).next) → seg S t p c nx → seg S' t p c nx := by
  intro c
  induction c with
  | nil => intro p nx _ _; trivial
  | cons x r ih =>
    intro p nx h hs
    obtain ⟨h1, h2, h3, h4⟩ := h x (by simp)
    refine ⟨?_, ih (fun y hy => h y (List.mem_cons_of_mem _ hy)) hs.2⟩
    unfold lk
    rw [h1, h2, h3, h4]
    exact hs.1
theorem seg_append {S : List Sl} {t : Int} : ∀ {a b : List Int} {p nx : Int}, seg S t p (a ++ b) nx ↔ seg S t p a (hdD nx b) ∧ seg S t (lsD p a) b nx := by
  intro a
  induction a with
  | nil => intro b p nx; simp [seg, lsD]
  | cons x r ih =>
    intro b p nx
    simp only [List.cons_append, seg, lsD, ih, hdD_append]
    constructor
    · rintro ⟨h1, h2, h3⟩; exact ⟨⟨h1, h2⟩, h3⟩
    · rintro ⟨⟨h1, h2⟩, h3⟩; exact ⟨h1, h2, h3⟩
theorem seg_mem {S : List Sl} {t : Int} : ∀ {c : List Int} {p nx x : Int}, seg S t p c nx → x ∈ c → isT S x = true ∧ (ndT S x).tag = t + 1 := by
  intro c
  induction c with
  | nil => intro p nx x _ h; cases h
  | cons y r ih =>
    intro p nx x hs h
    rcases List.mem_cons.1 h with rfl | h
    · exact ⟨hs.1.1, hs.1.2.1⟩
    · exact ih hs.2 h
theorem isT_ne0 {S : List Sl} {x : Int} (h : isT S x = true) : x ≠ 0 := by have := isT_lt h; omega
/-- The last one's next is another. -/
theorem seg_next {S S' : List Sl} {t : Int} : ∀ {c : List Int} {p nx nx' : Int}, c.Nodup → (∀ x ∈ c, isT S' x = isT S x ∧ (ndT S' x).tag = (ndT S x).tag ∧ (ndT S' x).prev = (ndT S x).prev ∧ (ndT S' x).next = if x = lsD p c then nx' else (ndT S x).next) →
    seg S t p c nx → seg S' t p c nx' := by
  intro c
  induction c with
  | nil => intro p nx nx' _ _ _; trivial
  | cons y r ih =>
    intro p nx nx' hnd h hs
    obtain ⟨h1, h2, h3, h4⟩ := h y (by simp)
    have hnd' := List.nodup_cons.1 hnd
    refine ⟨?_, ih hnd'.2 (fun x hx => h x (List.mem_cons_of_mem _ hx)) hs.2⟩
    unfold lk
    rw [h1, h2, h3, h4]
    refine ⟨hs.1.1, hs.1.2.1, hs.1.2.2.1, ?_⟩
    cases r with
    | nil => simp [lsD, hdD]
    | cons z r =>
      have hne : y ≠ lsD p (y :: z :: r) := by
        intro e
        have : lsD p (y :: z :: r) ∈ z :: r := lsD_mem y (z :: r) (by simp)
        rw [← e] at this
        exact hnd'.1 this
      rw [if_neg hne]
      exact hs.1.2.2.2
/-- The first one's prev is another. -/
theorem seg_prev {S S' : List Sl} {t : Int} {c : List Int} {p p' nx : Int} (hnd : c.Nodup) (h : ∀ x ∈ c, isT S' x = isT S x ∧ (ndT S' x).tag = (ndT S x).tag ∧ (ndT S' x).prev = (if x = hdD 0 c then p' else (ndT S x).prev) ∧ (ndT S' x).next = (ndT S x).next)
    (hs : seg S t p c nx) : seg S' t p' c nx := by
  cases c with
  | nil => trivial
  | cons y r =>
    obtain ⟨h1, h2, h3, h4⟩ := h y (by simp)
    have hnd' := List.nodup_cons.1 hnd
    refine ⟨?_, seg_congr (fun x hx => ?_) hs.2⟩
    · unfold lk
      rw [h1, h2, h3, h4]
      exact ⟨hs.1.1, hs.1.2.1, by simp [hdD], hs.1.2.2.2⟩
    · obtain ⟨h1, h2, h3, h4⟩ := h x (List.mem_cons_of_mem _ hx)
      have hne : x ≠ hdD 0 (y :: r) := by intro e; apply hnd'.1; rw [show y = x from e.symm]; exact hx
      rw [if_neg hne] at h3
      exact ⟨h1, h2, h3, h4⟩
/-- Lists in slots, with their headers. -/
structure LG (S : List Sl) (ls : List Li) (q : List (List Int)) : Prop where
  len : ls.length = q.length
  seg : ∀ t : Nat, t < q.length → seg S t 0 (q.getD t []) 0
  nd : ∀ t : Nat, t < q.length → (q.getD t []).Nodup
  hd : ∀ t : Nat, t < q.length → lg ls t = ⟨hdD 0 (q.getD t []), lsD 0 (q.getD t []), (q.getD t []).length⟩
theorem getD_set {α : Type} (q : List α) (t : Nat) (c : α) (d : α) (u : Nat) (ht : t < q.length) : (q.set t c).getD u d = if t = u then c else q.getD u d := by
  simp only [List.getD_eq_getElem?_getD, List.getElem?_set]
  split
  · simp [ht]
  · rfl
/-- One whose links no list uses may be turned. -/
theorem LG.other {S S' : List Sl} {ls : List Li} {q : List (List Int)} (G : LG S ls q) (h : ∀ x, isT S x = true → (ndT S x).tag ≠ 0 → isT S' x = true ∧ (ndT S' x).tag = (ndT S x).tag ∧ (ndT S' x).prev = (ndT S x).prev ∧ (ndT S' x).next = (ndT S x).next) : LG S' ls q := by
  refine ⟨G.len, fun t ht => seg_congr (fun x hx => ?_) (G.seg t ht), G.nd, G.hd⟩
  have q := seg_mem (G.seg t ht) hx
  obtain ⟨h1, h2⟩ := h x q.1 (by omega)
  exact ⟨by rw [h1, q.1], h2⟩
/-- A slot without a list, laid to a list's front. -/
theorem LG.push {S : List Sl} {ls : List Li} {q : List (List Int)} (G : LG S ls q) {t : Nat} (ht : t < q.length) {i : Int} (hi : isT S i = true) (h0 : (ndT S i).tag = 0) :
    LG (layS S t 0 i (hdD 0 (q.getD t []))) (st ls t (layL (lg ls t) 0 i (hdD 0 (q.getD t [])))) (q.set t (i :: q.getD t [])) ∧
      (hdD 0 (q.getD t []) = 0 ∨ isT S (hdD 0 (q.getD t [])) = true) ∧
      (∀ j, isT (layS S t 0 i (hdD 0 (q.getD t []))) j = isT S j) ∧
      (∀ j, j ≠ 0 → (ndT (layS S t 0 i (hdD 0 (q.getD t []))) j).key = (ndT S j).key ∧ (ndT (layS S t 0 i (hdD 0 (q.getD t []))) j).val = (ndT S j).val ∧ (ndT (layS S t 0 i (hdD 0 (q.getD t []))) j).flag = (ndT S j).flag ∧
        (j ≠ i → (ndT (layS S t 0 i (hdD 0 (q.getD t []))) j).tag = (ndT S j).tag)) := by
  generalize hc : q.getD t [] = c
  have hs := G.seg t ht
  have hnd := G.nd t ht
  rw [hc] at hs hnd
  have hi0 := isT_ne0 hi
  have hn : hdD 0 c = 0 ∨ isT S (hdD 0 c) = true := by
    cases c with
    | nil => exact .inl rfl
    | cons y r => exact .inr hs.1.1
  have hnc : i ∉ c := fun h => by have := (seg_mem hs h).2; omega
  have hni : hdD 0 c ≠ i := by
    intro e
    cases c with
    | nil => exact hi0 e.symm
    | cons y r => exact hnc (by rw [← e]; simp [hdD])
  have hy0 : ∀ y r, c = y :: r → y ≠ 0 := by
    rintro y r rfl
    exact isT_ne0 hs.1.1
  generalize hnn : hdD 0 c = n at *
  have u1 : ∀ j, isT (up S i (layN t 0 n)) j = isT S j := fun j => isT_up hi
  have a1 : (0 : Int) = 0 ∨ isT (up S i (layN t 0 n)) 0 = true := .inl rfl
  have a2 : i = 0 ∨ isT (up S i (layN t 0 n)) i = true := .inr (by rw [u1]; exact hi)
  have u2 : ∀ j, isT (jS (up S i (layN t 0 n)) 0 i) j = isT S j := fun j => by rw [jS_isT a1 a2, u1]
  have a3 : i = 0 ∨ isT (jS (up S i (layN t 0 n)) 0 i) i = true := .inr (by rw [u2]; exact hi)
  have a4 : n = 0 ∨ isT (jS (up S i (layN t 0 n)) 0 i) n = true := by rw [u2]; exact hn
  have u3 : ∀ j, isT (layS S t 0 i n) j = isT S j := fun j => by unfold layS; rw [jS_isT a3 a4, u2]
  have key : ∀ j, j ≠ 0 → ndT (layS S t 0 i n) j = if j = i then { ndT S i with tag := t + 1, prev := 0, next := n } else if j = n then prevTo i (ndT S j) else ndT S j := by
    intro j hj
    unfold layS
    rw [ndT_jS a3 a4 j hj, ndT_jS a1 a2 j hj, ndT_up hi]
    by_cases e : j = i
    · subst e
      rw [if_neg (by omega : ¬ n = j), if_pos rfl, if_pos rfl, if_neg (by omega : ¬ (0 : Int) = j), if_pos rfl, if_pos rfl]
      rfl
    · rw [if_neg e, if_neg (by omega : ¬ i = j), if_neg (by omega : ¬ i = j), if_neg (by omega : ¬ i = j), if_neg (by omega : ¬ (0 : Int) = j)]
      by_cases e2 : j = n
      · rw [if_pos e2, if_pos e2.symm]; rfl
      · rw [if_neg e2, if_neg (fun h => e2 h.symm)]; rfl
  refine ⟨⟨?_, ?_, ?_, ?_⟩, hn, u3, ?_⟩
  · rw [st_length, List.length_set]; exact G.len
  · intro u hu
    rw [List.length_set] at hu
    rw [getD_set q t _ _ u ht]
    by_cases e : t = u
    · subst e
      rw [if_pos rfl]
      refine ⟨?_, ?_⟩
      · refine ⟨by rw [u3]; exact hi, ?_, ?_, ?_⟩ <;> rw [key i hi0, if_pos rfl]
        exact hnn.symm
      · refine seg_prev hnd (fun x hx => ?_) hs
        have hx0 := isT_ne0 (seg_mem hs hx).1
        have hxi : x ≠ i := fun e => hnc (e ▸ hx)
        rw [u3, key x hx0, if_neg hxi, hnn]
        split
        · exact ⟨rfl, rfl, rfl, rfl⟩
        · exact ⟨rfl, rfl, rfl, rfl⟩
    · rw [if_neg e]
      refine seg_congr (fun x hx => ?_) (G.seg u hu)
      have hm := seg_mem (G.seg u hu) hx
      have hx0 := isT_ne0 hm.1
      have hxi : x ≠ i := by rintro rfl; omega
      have hxn : x ≠ n := by
        intro e2
        have hcne : c ≠ [] := by
          rintro rfl
          exact hx0 (e2.trans hnn.symm)
        have hmc := seg_mem hs (hdD_mem 0 c hcne)
        rw [hnn, ← e2] at hmc
        omega
      rw [u3, key x hx0, if_neg hxi, if_neg hxn]
      exact ⟨rfl, rfl, rfl, rfl⟩
  · intro u hu
    rw [List.length_set] at hu
    rw [getD_set q t _ _ u ht]
    split
    · exact List.nodup_cons.2 ⟨hnc, hnd⟩
    · exact G.nd u hu
  · intro u hu
    rw [List.length_set] at hu
    rw [getD_set q t _ _ u ht]
    have hul : (u : Int) < ls.length := by rw [G.len]; omega
    have htl : (t : Int) < ls.length := by rw [G.len]; omega
    show gt (st ls t _) u Li.z = _
    rw [gt_st _ _ (by omega) htl (by omega)]
    by_cases e : t = u
    · subst e
      rw [if_pos rfl, if_pos rfl, G.hd t ht, hc]
      unfold layL more jL
      simp only [if_true, if_neg hi0]
      cases c with
      | nil =>
        have : n = 0 := hnn.symm
        subst this
        simp [hdD, lsD]
      | cons y r =>
        have hyn : y = n := hnn
        have hn0 : n ≠ 0 := by rw [← hyn]; exact hy0 y r rfl
        simp [hdD, lsD, hn0]
    · rw [if_neg (by omega), if_neg e]
      exact G.hd u hu
  · intro j hj
    rw [key j hj]
    split
    · rename_i e; subst e; exact ⟨rfl, rfl, rfl, fun h => absurd rfl h⟩
    · split <;> exact ⟨rfl, rfl, rfl, fun _ => rfl⟩
/-- A slot taken out of its list. -/
theorem LG.take {S : List Sl} {ls : List Li} {q : List (List Int)} (G : LG S ls q) {t : Nat} (ht : t < q.length) {i : Int} (hic : i ∈ q.getD t []) :
    LG (outS S i) (st ls t (outL S (lg ls t) i)) (q.set t ((q.getD t []).erase i)) ∧
      ((ndT S i).prev = 0 ∨ isT S (ndT S i).prev = true) ∧ ((ndT S i).next = 0 ∨ isT S (ndT S i).next = true) ∧
      (∀ j, isT (outS S i) j = isT S j) ∧
      (∀ j, j ≠ 0 → (ndT (outS S i) j).key = (ndT S j).key ∧ (ndT (outS S i) j).val = (ndT S j).val ∧ (ndT (outS S i) j).flag = (ndT S j).flag ∧ (j ≠ i → (ndT (outS S i) j).tag = (ndT S j).tag)) ∧
      (ndT (outS S i) i).tag = 0 := by
  generalize hc : q.getD t [] = c at *
  have hs := G.seg t ht
  have hnd := G.nd t ht
  rw [hc] at hs hnd
  obtain ⟨a, b, rfl⟩ := List.append_of_mem hic
  have hm := seg_mem hs hic
  have hi0 := isT_ne0 hm.1
  rw [seg_append] at hs
  obtain ⟨hsa, ⟨hlk, hsb⟩⟩ := hs
  obtain ⟨hlk1, hlk2, hlk3, hlk4⟩ := hlk
  have hnd' := List.nodup_append.1 hnd
  obtain ⟨hnda, hndib, hdis⟩ := hnd'
  obtain ⟨hnib, hndb⟩ := List.nodup_cons.1 hndib
  have hnia : i ∉ a := fun h => hdis i h i (by simp) rfl
  have hab : ∀ x, x ∈ a → x ∉ b := fun x hx hxb => hdis x hx x (List.mem_cons_of_mem _ hxb) rfl
  have her : (a ++ i :: b).erase i = a ++ b := by rw [List.erase_append_right _ hnia, List.erase_cons_head]
  rw [her]
  have hp : (ndT S i).prev = 0 ∨ isT S (ndT S i).prev = true := by
    rw [hlk3]
    cases a with
    | nil => exact .inl rfl
    | cons y r => exact .inr (seg_mem hsa (lsD_mem 0 (y :: r) (by simp))).1
  have hx : (ndT S i).next = 0 ∨ isT S (ndT S i).next = true := by
    rw [hlk4]
    cases b with
    | nil => exact .inl rfl
    | cons y r => exact .inr (seg_mem hsb (hdD_mem 0 (y :: r) (by simp))).1
  have hpi : (ndT S i).prev ≠ i := by
    rw [hlk3]
    intro e
    cases a with
    | nil => exact hi0 e.symm
    | cons y r => exact hnia (e ▸ lsD_mem 0 (y :: r) (by simp))
  have hxi : (ndT S i).next ≠ i := by
    rw [hlk4]
    intro e
    cases b with
    | nil => exact hi0 e.symm
    | cons y r => exact hnib (e ▸ hdD_mem 0 (y :: r) (by simp))
  have u1 : ∀ j, isT (jS S (ndT S i).prev (ndT S i).next) j = isT S j := fun j => jS_isT hp hx j
  have hji : isT (jS S (ndT S i).prev (ndT S i).next) i = true := by rw [u1]; exact hm.1
  have u2 : ∀ j, isT (outS S i) j = isT S j := fun j => by unfold outS; rw [isT_up hji, u1]
  have key : ∀ j, j ≠ 0 → ndT (outS S i) j = if j = i then outN (ndT S i) else (if (ndT S i).next = j then prevTo (ndT S i).prev else id) ((if (ndT S i).prev = j then nextTo (ndT S i).next else id) (ndT S j)) := by
    intro j hj
    unfold outS
    rw [ndT_up hji]
    by_cases e : j = i
    · subst e
      rw [if_pos rfl, if_pos rfl, ndT_jS hp hx j hj, if_neg hxi, if_neg hpi]
      rfl
    · rw [if_neg (by omega), if_neg e, ndT_jS hp hx j hj]
  rw [hlk3, hlk4] at key
  refine ⟨⟨?_, ?_, ?_, ?_⟩, hp, hx, u2, ?_, ?_⟩
  · rw [st_length, List.length_set]; exact G.len
  · intro u hu
    rw [List.length_set] at hu
    rw [getD_set q t _ _ u ht]
    by_cases e : t = u
    · subst e
      rw [if_pos rfl, seg_append]
      constructor
      · refine seg_next (nx := i) hnda (fun x hxa => ?_) hsa
        have hmx := seg_mem hsa hxa
        have hx0 := isT_ne0 hmx.1
        have hxi' : x ≠ i := fun e => hnia (e ▸ hxa)
        have hxn : ¬ hdD 0 b = x := by
          intro e
          cases b with
          | nil => exact hx0 e.symm
          | cons y r => exact hab x hxa (e ▸ hdD_mem 0 (y :: r) (by simp))
        rw [u2, key x hx0, if_neg hxi', if_neg hxn]
        by_cases e3 : lsD 0 a = x
        · rw [if_pos e3, if_pos e3.symm]; exact ⟨rfl, rfl, rfl, rfl⟩
        · rw [if_neg e3, if_neg (fun h => e3 h.symm)]; exact ⟨rfl, rfl, rfl, rfl⟩
      · refine seg_prev (p := i) hndb (fun x hxb => ?_) hsb
        have hmx := seg_mem hsb hxb
        have hx0 := isT_ne0 hmx.1
        have hxi' : x ≠ i := fun e => hnib (e ▸ hxb)
        have hxp : ¬ lsD 0 a = x := by
          intro e
          cases a with
          | nil => exact hx0 e.symm
          | cons y r => exact hab x (e ▸ lsD_mem 0 (y :: r) (by simp)) hxb
        rw [u2, key x hx0, if_neg hxi', if_neg hxp]
        by_cases e3 : hdD 0 b = x
        · rw [if_pos e3, if_pos e3.symm]; exact ⟨rfl, rfl, rfl, rfl⟩
        · rw [if_neg e3, if_neg (fun h => e3 h.symm)]; exact ⟨rfl, rfl, rfl, rfl⟩
    · rw [if_neg e]
      refine seg_congr (fun x hxu => ?_) (G.seg u hu)
      have hmu := seg_mem (G.seg u hu) hxu
      have hx0 := isT_ne0 hmu.1
      have hxi' : x ≠ i := by rintro rfl; have := hm.2; omega
      have hxn : ¬ hdD 0 b = x := by
        intro e2
        cases b with
        | nil => exact hx0 e2.symm
        | cons y r =>
          have hmc := seg_mem hsb (hdD_mem 0 (y :: r) (by simp))
          rw [e2] at hmc
          omega
      have hxp : ¬ lsD 0 a = x := by
        intro e2
        cases a with
        | nil => exact hx0 e2.symm
        | cons y r =>
          have hmc := seg_mem hsa (lsD_mem 0 (y :: r) (by simp))
          rw [e2] at hmc
          omega
      rw [u2, key x hx0, if_neg hxi', if_neg hxn, if_neg hxp]
      exact ⟨rfl, rfl, rfl, rfl⟩
  · intro u hu
    rw [List.length_set] at hu
    rw [getD_set q t _ _ u ht]
    split
    · exact List.nodup_append.2 ⟨hnda, hndb, fun x hxa y hyb e => hab x hxa (e ▸ hyb)⟩
    · exact G.nd u hu
  · intro u hu
    rw [List.length_set] at hu
    rw [getD_set q t _ _ u ht]
    have hul : (u : Int) < ls.length := by rw [G.len]; omega
    have htl : (t : Int) < ls.length := by rw [G.len]; omega
    show gt (st ls t _) u Li.z = _
    rw [gt_st _ _ (by omega) htl (by omega)]
    by_cases e : t = u
    · subst e
      rw [if_pos rfl, if_pos rfl, G.hd t ht, hc]
      unfold outL more jL
      rw [hlk3, hlk4]
      simp only [List.length_append, List.length_cons]
      cases a with
      | nil =>
        cases b with
        | nil => simp [hdD, lsD]
        | cons z r =>
          have hz0 : z ≠ 0 := isT_ne0 (seg_mem hsb (by simp)).1
          simp [hdD, lsD, hz0] <;> omega
      | cons y r =>
        have hl0 : lsD y r ≠ 0 := isT_ne0 (seg_mem hsa (lsD_mem 0 (y :: r) (by simp))).1
        cases b with
        | nil => simp [hdD, lsD, lsD_append, hl0] <;> omega
        | cons z r' =>
          have hz0 : z ≠ 0 := isT_ne0 (seg_mem hsb (by simp)).1
          simp [hdD, lsD, lsD_append, hl0, hz0] <;> omega
    · rw [if_neg (by omega), if_neg e]
      exact G.hd u hu
  · intro j hj
    rw [key j hj]
    split
    · rename_i e; subst e; exact ⟨rfl, rfl, rfl, fun h => absurd rfl h⟩
    · (repeat' split) <;> exact ⟨rfl, rfl, rfl, fun _ => rfl⟩
  · rw [key i hi0, if_pos rfl]; rfl
end Go.Proofs.Ytlakojncjldpbaa

namespace Go.Proofs.Ytlakojncjldpbaa
open Go.RowKit Go.Shelf Hop
set_option linter.unusedVariables false
set_option linter.unusedSimpArgs false
set_option maxRecDepth 100000
attribute [local go_sem] Oper.semAt_some
theorem grown_of_below {w w' : World} (h : Below w.heap.size w w') : w.grownBy w' none := ⟨h.os, h.tape, h.output, h.size, fun k hk _ => h.block k hk⟩
/-- How many are still to come, told by the next one. -/
def cm : List Int → Int → Nat
  | [], _ => 0
  | x :: r, y => if x = y then r.length + 1 else cm r y
def comes (c : List Int) (v : Value) : Nat := cm c (intOf v)
theorem comes_of (c pre rest : List Int) (hc : c = pre ++ rest) (hnd : c.Nodup) (h0 : ∀ x ∈ c, x ≠ 0) : comes c (.int .i32 (hdD 0 rest)) = rest.length := by
  subst hc
  show cm (pre ++ rest) (hdD 0 rest) = rest.length
  induction pre with
  | nil =>
    cases rest with
    | nil => rfl
    | cons y r => simp [cm, hdD]
  | cons z p ih =>
    have hz : z ≠ hdD 0 rest := by
      intro e
      cases rest with
      | nil => exact h0 z (by simp) e
      | cons y r => exact (List.nodup_cons.1 hnd).1 (by rw [show z = y from e]; simp)
    simp only [List.cons_append, cm, if_neg hz]
    exact ih (List.nodup_cons.1 hnd).2 (fun x hx => h0 x (List.mem_cons_of_mem _ hx))
theorem kslots1 (args : Array Value) (W : World) : (callFunc 230 args).run Try.prog W = .ok (.enter 230 args) W := by kernel_rfl
/-- What a round keeps: what lay below, and the iterator's own block. -/
def Kept1 (n₀ pl Bl : Nat) (A B : World) : Prop := Below n₀ A B ∧ (Blk A Bl [P0 pl] 155 → Blk B Bl [P0 pl] 155)
section
variable (pl pa bl ba : Nat) (S : List Sl) (ls : List Li) (f nx li : Value)
set_option maxHeartbeats 2000000 in
theorem slots1_in (t : Nat) (c : List Int) (n₀ : Nat) (W0 : World) (l Bl Bt : Nat) (hn : S.length < 1000000) (hls : ls.length < 100) (ht : t < ls.length) (htag : t < 50) (hs : seg S t 0 c 0) (hnd : c.Nodup) (hf : (lg ls t).front = hdD 0 c)
    (h0 : n₀ ≤ W0.heap.size) (J Jx : List Int → World → Prop) (hJ : AbidesFrom W0.heap.size J)
    (hY : ∀ pre x W, J pre W → pre.length < c.length → YieldAt Fence.wide 2 Try.prog l #[.int .i32 x] W fun e W' =>
      (e = .returned (.bool true) ∧ J (pre ++ [x]) W' ∧ Kept1 n₀ pl Bl W W') ∨ (e = .returned (.bool false) ∧ Jx (pre ++ [x]) W'))
    (hR : LRep W0 pl pa bl ba S ls f nx li) (hlow : pl < n₀ ∧ pa < n₀ ∧ bl < n₀ ∧ ba < n₀) (hBl : Blk W0 Bl [P0 pl] 155) (hBt : Blk W0 Bt [.int .i64 t] 3) (hJ0 : J [] W0) :
    CallsIn Fence.wide 3 Try.prog 230 #[.func (.yield l) #[] #[], P0 Bl, P0 Bt] W0 fun e W' => (∃ v, e = .returned v) ∧ ((∃ ys, ys = c ∧ J ys W') ∨ (∃ pre, pre <+: c ∧ Jx pre W')) := by
  have c0 := hBl.cell 0
  have c1 := hBt.cell 0
  simp only [List.getElem?_cons_zero] at c0 c1
  have hne0 : ∀ x ∈ c, x ≠ 0 := fun x hx => isT_ne0 (seg_mem hs hx).1
  have FR := (front_yes pl pa bl ba S ls f nx li t W0 (by omega) ht hR)
  rw [hf] at FR
  have HFR := Go.Lib.hid FR
  have HJ := Go.Lib.hid hJ
  have HNE := Go.Lib.hid hne0
  have HY := Go.Lib.hid hY
  clear FR hJ hne0 hf hY
  refine callsIn_of_wp Try.func230 rfl trivial ?_ rfl
  simp only [Try.ntmps230, List.size_toArray, List.length_cons, List.length_nil, Nat.reduceAdd, Nat.reduceSub, Array.replicate_succ, Array.replicate_zero, List.push_toArray, List.append_toArray, List.nil_append, List.cons_append]
  gi_wp2_with (refine ⟨trivial, ?_⟩; gi_at_call 220; refine (callsIn_wide.2 HFR.out).mono ?_; rintro e w' ⟨rfl, rfl⟩)
  gi_loopw [4] (fun v wr => ∃ (pre rest : List Int), v = .int .i32 (hdD 0 rest) ∧ Hid (c = pre ++ rest) ∧ Blk wr Bl [P0 pl] 155 ∧ Below n₀ W0 wr ∧ W0.heap.size ≤ wr.heap.size ∧ J pre wr) (fun v wr => comes c v)
  case atStart => exact ⟨[], c, rfl, rfl, hBl, Below.refl _ _, Nat.le_refl _, hJ0⟩
  case round =>
    obtain ⟨pre, rest, rfl, hx, b1, hb, hsz, hJs⟩ := hrel
    have c0' := b1.cell 0
    simp only [List.getElem?_cons_zero] at c0'
    have HB := Go.Lib.hid hb
    cases rest with
    | nil =>
      have hx0 : pre = c := by have := hx.out; simpa using this.symm
      have HX0 := Go.Lib.hid hx0
      clear hx0 hb
      rw [show hdD 0 [] = 0 from rfl]
      gi_wp2
      refine ⟨fun _ h => (by cases h), ?_⟩
      gi_wp2
      go_end0
      exact ⟨⟨_, rfl⟩, .inl ⟨pre, HX0.out, hJs⟩⟩
    | cons x rest =>
      have hlt : pre.length < c.length := by rw [hx.out]; simp
      have hxc : x ∈ c := by rw [hx.out]; simp
      have hm := seg_mem hs hxc
      have hx0 : (x != 0) = true := by simpa using HNE.out x hxc
      have hx00 : x ≠ 0 := HNE.out x hxc
      have hnext : (ndT S x).next = hdD 0 rest := by
        have q := hs
        rw [hx.out, seg_append] at q
        exact q.2.1.2.2.2
      have hil := isT_lt hm.1
      obtain ⟨fn, tmps, assign, body, hy, hRd⟩ := HY.out pre x wr hJs hlt
      have HHR := Go.Lib.hid hRd
      have HN := Go.Lib.hid hnext
      have HM := Go.Lib.hid hm
      have hile : x ≤ 2147483647 := by omega
      have HXC := Go.Lib.hid hx00
      clear hRd hnext hm hil hb hxc hx00
      rw [show hdD 0 (x :: rest) = x from rfl]
      gi_wp2
      refine HHR.out.mono ?_
      rintro e W3 (⟨rfl, hJ3, hk3⟩ | ⟨rfl, hJx3⟩)
      · have hb3 := HB.out.trans hk3.1
        have hR3 : LRep W3 pl pa bl ba S ls f nx li := ⟨hR.hl.of_heap (hb3.block _ hlow.1), hR.ha.of_heap (hb3.block _ hlow.2.1), hR.bl.of_heap (hb3.block _ hlow.2.2.1), hR.ba.of_heap (hb3.block _ hlow.2.2.2)⟩
        have b13 : Blk W3 Bl [P0 pl] 155 := hk3.2 b1
        have c03 := b13.cell 0
        simp only [List.getElem?_cons_zero] at c03
        have AF := after_yes pl pa bl ba S ls f nx li x W3 hile hn hR3 (by rw [HM.out.2]; omega)
        rw [HN.out] at AF
        have HAF := Go.Lib.hid AF
        have HB3 := Go.Lib.hid hb3
        have HSZ := Go.Lib.hid (Nat.le_trans hsz hk3.1.size)
        clear AF hb3 hk3 c0'
        gi_wp2_with (refine ⟨trivial, ?_⟩; gi_at_call 231; refine (callsIn_wide.2 HAF.out).mono ?_; rintro e w4 ⟨rfl, hb4⟩; have HB4 := Go.Lib.hid hb4; clear hb4)
        go_roundw
        case rel =>
          refine ⟨pre ++ [x], rest, rfl, Go.Lib.hid (by have := hx.out; simpa using this), b13.keep HB4.out, HB3.out.trans (HB4.out.mono (Nat.le_trans h0 HSZ.out)), Nat.le_trans HSZ.out HB4.out.size, HJ.out _ _ _ none hJ3 (grown_of_below HB4.out) (fun r e => by cases e)⟩
        case measure =>
          rw [comes_of c (pre ++ [x]) rest (by have := hx.out; simpa using this) hnd HNE.out]
          have q := comes_of c pre (x :: rest) hx.out hnd HNE.out
          rw [show hdD 0 (x :: rest) = x from rfl] at q
          rw [q]
          simp
      · gi_wp2
        go_end0
        exact ⟨⟨_, rfl⟩, .inr ⟨pre ++ [x], ⟨rest, by have := hx.out; simpa using this.symm⟩, hJx3⟩⟩
set_option maxHeartbeats 800000 in
theorem slots_any (t : Nat) (w : World) :
    Calls Try.prog 201 #[P0 pl, .int .i64 t] w fun e w' => e = .returned (.func (.func 230) #[] #[P0 w.heap.size, P0 (w.heap.size + 1)]) ∧ w' = (w.alloc (.cells #[P0 pl] 155)).alloc (.cells #[.int .i64 t] 3) := by
  go_enter Try.func201, Try.ntmps201
  go_wp2
  go_ret
  exact ⟨rfl, rfl⟩
set_option maxHeartbeats 2000000 in
theorem all_any (t : Nat) (c : List Int) (w : World) (hn : S.length < 1000000) (hls : ls.length < 100) (ht : t < ls.length) (htag : t < 50) (hs : seg S t 0 c 0) (hnd : c.Nodup) (hf : (lg ls t).front = hdD 0 c) (hlen : c.length < 1000000)
    (hR : LRep w pl pa bl ba S ls f nx li) :
    Calls Try.prog 169 #[P0 pl, .int .i64 t] w fun e w' => ∃ v, e = .returned v ∧ Row w' 21 1 v c.length (c.map (Value.int .i32)) ∧ (∀ b, v.ownBlock = some b → w.heap.size ≤ b) ∧ Below w.heap.size w w' := by
  refine callsIn_wide (n := 4).1 ?_
  obtain ⟨i0, hi, hz0, hz1, hz2⟩ := info_parts i32_info
  have hro : Fence.wide.round = none := rfl
  have l0 := hR.hl.lt
  have l1 := hR.ha.lt
  have l2 := hR.bl.lt
  have l3 := hR.ba.lt
  refine callsIn_of_wp_marks Try.func169 rfl trivial ?_ hro
  simp only [Try.ntmps169, List.size_toArray, List.length_cons, List.length_nil, Nat.reduceAdd, Nat.reduceSub, Array.replicate_succ, Array.replicate_zero, List.push_toArray, List.append_toArray, List.nil_append, List.cons_append]
  gi_wp2_with (refine ⟨trivial, ?_⟩; gi_at_call 201; refine (callsIn_wide.2 (slots_any pl t _)).mono ?_; rintro e w' ⟨rfl, rfl⟩)
  obtain ⟨W0, hW0⟩ : ∃ W0, W0 = ((w.alloc (.cells #[.slice none 0 0] 161)).alloc (.cells #[P0 pl] 155)).alloc (.cells #[.int .i64 t] 3) := ⟨_, rfl⟩
  have hB0 : Below w.heap.size w W0 := by
    rw [hW0]
    exact (((Below.refl _ w).alloc (Nat.le_refl _) _).alloc (by simp) _).alloc (by simp; omega) _
  have bO : Boxed W0 w.heap.size 161 (.slice none 0 0) := by
    rw [hW0]
    exact ((Boxed.new w 161 (.slice none 0 0)).alloc _).alloc _
  have bL : Blk W0 (w.heap.size + 1) [P0 pl] 155 := by
    rw [hW0]
    exact (Blk.new1 w _ [P0 pl] 155).alloc _
  have bT : Blk W0 (w.heap.size + 1 + 1) [.int .i64 t] 3 := by
    rw [hW0]
    exact Blk.new2 w _ _ [.int .i64 t] 3
  have zW : W0.heap.size = w.heap.size + 3 := by rw [hW0]; simp
  rw [← hW0]
  have R0 := hR.keep hB0
  have HSEQ : SeqStopsK Fence.wide 3 Try.prog 230 #[P0 (w.heap.size + 1), P0 (w.heap.size + 1 + 1)] (fun x : Int => #[Value.int .i32 x]) (Kept1 w.heap.size pl (w.heap.size + 1)) (fun ys => ys = c) (fun pre => pre <+: c) c.length W0 := by
    intro l J Jx W hW hJ hJx hY h0
    exact slots1_in pl pa bl ba S ls f nx li t c w.heap.size W l (w.heap.size + 1) (w.heap.size + 1 + 1) hn hls ht htag hs hnd hf (by have := hW.size; omega) J Jx hJ hY (R0.keep hW) ⟨l0, l1, l2, l3⟩ (bL.keep hW) (bT.keep hW) h0
  clear hW0
  refine wpIn_rangeFunc_ownG hro (by decide : 1 ≤ 4) (gf := 230) (lb := #[P0 (w.heap.size + 1), P0 (w.heap.size + 1 + 1)]) rfl trivial (enters_of Try.func230 (by kernel_rfl) rfl)
    HSEQ (fun {A B C} h k => ⟨h.1.trans k.1, fun q => k.2 (h.2 q)⟩)
    (fun W l o o' hl h hc hw => ⟨belowK_b (by omega : w.heap.size ≤ W0.heap.size) W l o o' hl h hc hw, fun q => q.of_heap (World.putObj_heap_other (fun e => by subst e; omega))⟩) (Below.refl _ _) (fun _ => rfl)
    (fun pre W => (∃ v, Boxed W w.heap.size 161 v ∧ W.ownsRow w.heap.size 21 1 v pre.length (pre.map (Value.int .i32)) ∧ True) ∧ Below w.heap.size w W)
    (fun _ _ _ => False)
    (OwnFrom.and (Own.from (holdsRow_own w.heap.size w.heap.size 161 21 1 (fun pre : List Int => pre.length) (fun pre : List Int => pre.map (Value.int .i32)) (fun _ _ => True)) _) (ownFrom_below (Nat.le_refl _) (by omega)))
    (fun _ _ _ _ _ hs _ _ => hs)
    ⟨⟨_, bO, World.ownsRow_nil _ _ _ _, trivial⟩, hB0⟩
    (fun x => { tmps := #[P0 pl, .int .i64 t, undef, undef, .slice none 0 0, .pointer (some ⟨w.heap.size, 0, none⟩), .int .i32 x, P0 pl, .int .i64 t, .func (.func 230) #[] #[P0 (w.heap.size + 1), P0 (w.heap.size + 1 + 1)], .int .i32 x, undef, undef, undef, undef, undef], defers := [] }) ?assign ?body ?done ?stop
  case assign =>
    intro l x W K hK
    gi_wp2
    exact hK
  case body =>
    rintro l pre x W ⟨⟨v, hv, hrow, _⟩, hB⟩ hlt
    have hc := hv.cell
    have hbl : ∀ W', W'.heap[w.heap.size + 1]? = W.heap[w.heap.size + 1]? → (Blk W (w.heap.size + 1) [P0 pl] 155 → Blk W' (w.heap.size + 1) [P0 pl] 155) := fun W' e q => q.of_heap e
    gi_wp2_with (gi_at_builtin; refine wpListIn_append_own _ rfl _ _ 161 rfl w.heap.size 21 i0 (.int .i32 0) 1 4 Try.underlying161 hi hz0 hz1 hz2 rfl (by decide) _ _ _ rfl (hrow.alloc _) ⟨W.heap.size, 0, none⟩ 1 1 [.int .i32 x] rfl rfl (cell_one_new _ _ _) (by simp [Value.oneCell']) (by unfold maxLen; omega) (by omega) (by have := hB.size; simp; omega) ?_; intro v' w1 hown' hgrow _; obtain ⟨g', cap', rfl⟩ := ownsRow_succ hown'; obtain ⟨hv1, hv2, hr2, hk2, hb2⟩ := hv.appended (by decide) hrow hB.size (Nat.le_refl _) hown' hgrow; have hc1 := hv1.cell; have hf1 := hv1.frozen)
    refine ⟨hk2.from _, ⟨hb2, ?_⟩, ⟨_, hv2, by simpa using hr2, trivial⟩, hB.trans hb2⟩
    intro q
    have hne : w.heap.size + 1 < W.heap.size := q.lt
    have e1 : w1.heap[w.heap.size + 1]? = W.heap[w.heap.size + 1]? := by
      rw [hgrow.block _ (by simp; omega) (fun e => ?_), Below.heap_alloc _ _ _ hne]
      rcases hrow.2 with ⟨rfl, _⟩ | ⟨g, cap, cur, rfl, _, hgb, _⟩
      · cases e
      · have e2 : w.heap.size + 1 = g := Option.some.inj e
        subst e2
        unfold Blk at q
        rw [q] at hgb
        injection hgb with hgb
        injection hgb with _ h2 _
        exact absurd h2 (by decide)
    refine Blk.set_ne (a := ⟨w.heap.size, 0, none⟩) (q.of_heap e1) (by show w.heap.size + 1 ≠ w.heap.size; omega) _
  case done =>
    rintro D ys W hD rfl ⟨⟨v, hv, hrow, _⟩, hB⟩ hK
    have hc := hv.cell
    gi_wp2
    refine ⟨by simp, .inl ⟨_, _, rfl, run_takeDeferred hK, ?_⟩⟩
    have hrow' := ownsRow_putObj hrow (.deferred none) hK rfl
    refine ⟨_, results_tmp rfl _ _ _, v, rfl, ?_, ?_, hB.trans (belowK_b (w := w) (Nat.le_refl _) W D _ _ (by omega) hK rfl rfl)⟩
    · refine ⟨by simp, ?_⟩
      rcases hrow'.2 with q | ⟨g, cap, cur, h1, h2, h3, h4, h5, h6, h7⟩
      · exact .inl q
      · refine .inr ⟨g, cap, cur.toList, h1, ?_, h4, h5, by simp [h6], h7⟩
        unfold Blk
        simpa using h3
    · intro b hb
      rcases hrow'.2 with ⟨q, _⟩ | ⟨g, cap, cur, h1, h2, h3, h4, h5, h6, h7⟩
      · rw [q] at hb; cases hb
      · rw [h1] at hb
        have e : g = b := by simpa [Value.ownBlock] using hb
        omega
  case stop =>
    rintro D c pre W _ _ h _
    exact h.elim
end
end Go.Proofs.Ytlakojncjldpbaa

namespace Go.Proofs.Ytlakojncjldpbaa
open Go.RowKit Hop
set_option linter.unusedVariables false
set_option linter.unusedSimpArgs false
/-- The arena: which slots are free. -/
structure AI (S : List Sl) (freed : List Int) (next : Int) (n : Nat) : Prop where
  lo : 1 ≤ next
  hi : next ≤ S.length
  tk : ∀ i, isT S i = true → i < next
  fr : ∀ i ∈ freed, 0 < i ∧ i < next ∧ isT S i = false
  nd : freed.Nodup
  cn : (freed.length : Int) + n + 1 = next
theorem isT_st {S : List Sl} {i : Int} {x : Sl} (h0 : 0 < i) (h1 : i < S.length) (j : Int) : isT (st S i x) j = if j = i then x.taken else isT S j := by
  by_cases hj : 0 < j
  · have e : (sg (st S i x) j).taken = if i = j then x.taken else (sg S j).taken := by
      show (gt (st S i x) j Sl.z).taken = _
      rw [gt_st _ _ (by omega) h1 (by omega)]
      split <;> rfl
    unfold isT
    rw [st_length, e]
    by_cases hij : j = i
    · subst hij
      simp [h0, h1]
    · rw [if_neg (by omega), if_neg hij]
  · have hne : j ≠ i := by omega
    rw [if_neg hne]
    unfold isT
    simp [hj]
theorem ndT_st {S : List Sl} {i : Int} {x : Nd} (h0 : 0 < i) (h1 : i < S.length) (j : Int) : ndT (st S i ⟨x, true⟩) j = if j = i then x else ndT S j := by
  unfold ndT
  rw [isT_st h0 h1]
  by_cases hij : j = i
  · subst hij
    rw [if_pos rfl, if_pos rfl, if_pos rfl]
    show (gt (st S j _) j Sl.z).nd = x
    rw [gt_st_same _ _ (by omega) h1]
  · rw [if_neg hij, if_neg hij]
    by_cases ht : isT S j = true
    · rw [if_pos ht, if_pos ht]
      have := isT_lt ht
      show (gt (st S i _) j Sl.z).nd = _
      rw [gt_st_ne _ _ (by omega) (by omega) (by omega)]
    · rw [if_neg ht, if_neg ht]
theorem ndT_stz {S : List Sl} {i : Int} (h0 : 0 < i) (h1 : i < S.length) (j : Int) (hj : j ≠ i) : ndT (st S i Sl.z) j = ndT S j := by
  unfold ndT
  rw [isT_st h0 h1, if_neg hj]
  by_cases ht : isT S j = true
  · rw [if_pos ht, if_pos ht]
    have := isT_lt ht
    show (gt (st S i _) j Sl.z).nd = _
    rw [gt_st_ne _ _ (by omega) (by omega) (by omega)]
  · rw [if_neg ht, if_neg ht]
theorem gt_append {α : Type} (l : List α) (n : Nat) (z : α) (j : Int) : gt (l ++ List.replicate n z) j z = gt l j z := by
  unfold gt
  simp only [List.getD_eq_getElem?_getD]
  rcases Nat.lt_or_ge j.toNat l.length with h | h
  · rw [List.getElem?_append_left h]
  · rw [List.getElem?_append_right h, List.getElem?_eq_none h, List.getElem?_replicate]
    split <;> rfl
theorem isT_more (S : List Sl) (n : Nat) (j : Int) : isT (S ++ List.replicate n Sl.z) j = isT S j := by
  unfold isT
  show (decide (0 < j) && (decide (j < ((S ++ List.replicate n Sl.z).length : Int)) && (gt (S ++ List.replicate n Sl.z) j Sl.z).taken)) = (decide (0 < j) && (decide (j < (S.length : Int)) && (gt S j Sl.z).taken))
  rw [gt_append]
  by_cases h0 : 0 < j
  · by_cases h1 : j < S.length
    · have : j < ((S ++ List.replicate n Sl.z).length : Int) := by simp; omega
      simp only [h1, this]
    · have e : gt S j Sl.z = Sl.z := by unfold gt; rw [List.getD_eq_getElem?_getD, List.getElem?_eq_none (by omega)]; rfl
      rw [e]
      simp [Sl.z]
  · simp [h0]
theorem ndT_more (S : List Sl) (n : Nat) (j : Int) : ndT (S ++ List.replicate n Sl.z) j = ndT S j := by
  unfold ndT
  rw [isT_more]
  show (if isT S j = true then (gt (S ++ List.replicate n Sl.z) j Sl.z).nd else Nd.z) = _
  rw [gt_append]
/-- What a store is behind a slot taken. -/
structure Took (S S1 : List Sl) (i : Int) : Prop where
  lo : 0 < i
  hi : i < S1.length
  was : isT S i = false
  tk : ∀ j, isT S1 j = if j = i then true else isT S j
  nd : ∀ j, ndT S1 j = if j = i then Nd.z else ndT S j
theorem AI.freed {S : List Sl} {fs : List Int} {i next : Int} {n : Nat} (A : AI S (fs ++ [i]) next n) : AI (st S i ⟨Nd.z, true⟩) fs next (n + 1) ∧ Took S (st S i ⟨Nd.z, true⟩) i := by
  obtain ⟨lo, hi, tk, fr, nd, cn⟩ := A
  obtain ⟨f0, f1, f2⟩ := fr i (by simp)
  have hl : i < S.length := by omega
  have key := fun j => isT_st (x := ⟨Nd.z, true⟩) f0 hl j
  have nd' := List.nodup_append.1 nd
  refine ⟨⟨lo, by rw [st_length]; exact hi, ?_, ?_, nd'.1, ?_⟩, ⟨f0, by rw [st_length]; exact hl, f2, key, fun j => ndT_st f0 hl j⟩⟩
  · intro j hj
    rw [key] at hj
    split at hj
    · omega
    · exact tk j hj
  · intro j hj
    obtain ⟨g0, g1, g2⟩ := fr j (by simp [hj])
    have hne : j ≠ i := fun e => nd'.2.2 j hj i (by simp) e
    rw [key, if_neg hne]
    exact ⟨g0, g1, g2⟩
  · rw [List.length_append, List.length_singleton] at cn
    omega
theorem AI.room {S : List Sl} {next : Int} {n : Nat} (A : AI S [] next n) (h : next < S.length) : AI (st S next ⟨Nd.z, true⟩) [] (next + 1) (n + 1) ∧ Took S (st S next ⟨Nd.z, true⟩) next := by
  obtain ⟨lo, hi, tk, fr, nd, cn⟩ := A
  have key := fun j => isT_st (x := ⟨Nd.z, true⟩) (by omega : 0 < next) h j
  have hw : isT S next = false := by
    cases hq : isT S next with
    | false => rfl
    | true => have := tk next hq; omega
  refine ⟨⟨by omega, by rw [st_length]; omega, ?_, (by intro i hi; cases hi), nd, ?_⟩, ⟨by omega, by rw [st_length]; exact h, hw, key, fun j => ndT_st (by omega) h j⟩⟩
  · intro j hj
    rw [key] at hj
    split at hj
    · omega
    · have := tk j hj; omega
  · simp at cn ⊢; omega
theorem AI.more {S : List Sl} {fs : List Int} {next : Int} {n m : Nat} (A : AI S fs next n) : AI (S ++ List.replicate m Sl.z) fs next n := by
  obtain ⟨lo, hi, tk, fr, nd, cn⟩ := A
  exact ⟨lo, by rw [List.length_append]; omega, fun i h => tk i (by rw [isT_more] at h; exact h), fun i h => by rw [isT_more]; exact fr i h, nd, cn⟩
theorem AI.free {S : List Sl} {fs : List Int} {next i : Int} {n : Nat} (A : AI S fs next (n + 1)) (hi : isT S i = true) : AI (st S i Sl.z) (fs ++ [i]) next n ∧ (∀ j, isT (st S i Sl.z) j = if j = i then false else isT S j) ∧ (∀ j, j ≠ i → ndT (st S i Sl.z) j = ndT S j) := by
  obtain ⟨lo, hin, tk, fr, nd, cn⟩ := A
  obtain ⟨h0, h1, h2⟩ := isT_lt hi
  have key := fun j => isT_st (x := Sl.z) h0 h1 j
  have hlt := tk i hi
  have hnf : i ∉ fs := fun h => by have := (fr i h).2.2; rw [hi] at this; cases this
  refine ⟨⟨lo, by rw [st_length]; exact hin, ?_, ?_, ?_, ?_⟩, key, fun j hj => ndT_stz h0 h1 j hj⟩
  · intro j hj
    rw [key] at hj
    split at hj
    · cases hj
    · exact tk j hj
  · intro j hj
    rw [key]
    rcases List.mem_append.1 hj with h | h
    · obtain ⟨g0, g1, g2⟩ := fr j h
      refine ⟨g0, g1, ?_⟩
      split
      · rfl
      · exact g2
    · have e : j = i := by simpa using h
      subst e
      rw [if_pos rfl]
      exact ⟨h0, hlt, rfl⟩
  · exact List.nodup_append.2 ⟨nd, by simp, fun a ha b hb e => hnf (by
      have hb' : b = i := by simpa using hb
      rw [← hb', ← e]
      exact ha)⟩
  · rw [List.length_append, List.length_singleton]; omega
theorem AI.congr {S S' : List Sl} {fs : List Int} {next : Int} {n : Nat} (A : AI S fs next n) (hl : S'.length = S.length) (h : ∀ j, isT S' j = isT S j) : AI S' fs next n :=
  ⟨A.lo, by rw [hl]; exact A.hi, fun i hi => A.tk i (by rw [← h]; exact hi), fun i hi => by rw [h]; exact A.fr i hi, A.nd, A.cn⟩

/-- A key, its value and its flag. -/
structure En where
  key : Int
  val : Int
  flag : Int
def en (S : List Sl) (i : Int) : En := ⟨(ndT S i).key, (ndT S i).val, (ndT S i).flag⟩
def total (q : List (List Int)) : Nat := (q.map List.length).sum
def inQ (q : List (List Int)) (i : Int) : Prop := ∃ t : Nat, t < q.length ∧ i ∈ q.getD t []
/-- All of a store agrees. -/
structure Good (s : St) (q : List (List Int)) (p : Nat) : Prop where
  gl : LG s.slots s.lists q
  qn : (q.length : Int) = s.queues
  q8 : 1 ≤ q.length ∧ q.length ≤ 8
  tk : ∀ i, isT s.slots i = true ↔ inQ q i
  ai : AI s.slots s.freed s.next (total q)
  lv : s.live = total q
  ti : Ti hmF s.tab
  p2 : P2 s.tab.length
  cn : cnt s.tab = total q
  mn : s.many = total q
  fit : 4 * cnt s.tab ≤ 3 * s.tab.length
  tin : ∀ k v, Tin s.tab k v ↔ isT s.slots v = true ∧ (ndT s.slots v).key = k
  ks : ∀ i, isT s.slots i = true → 0 ≤ (ndT s.slots i).key ∧ (ndT s.slots i).key < 18446744073709551616
  b1 : s.slots.length ≤ 8 + 2 * p
  b2 : 3 * s.tab.length ≤ 24 + 8 * p
  b3 : total q ≤ p
  b4 : p < 50000
  b5 : s.slots.length % 8 = 0 ∧ 8 ≤ s.slots.length ∧ s.tab.length % 8 = 0 ∧ 8 ≤ s.tab.length
theorem Good.one {s : St} {q : List (List Int)} {p : Nat} (G : Good s q p) {i j : Int} (hi : isT s.slots i = true) (hj : isT s.slots j = true) (h : (ndT s.slots i).key = (ndT s.slots j).key) : i = j := by
  obtain ⟨a, a0, a1, af, ak, av⟩ := (G.tin _ _).2 ⟨hi, rfl⟩
  obtain ⟨b, c0, c1, bf, bk, bv⟩ := (G.tin _ _).2 ⟨hj, rfl⟩
  have := G.ti.one a b a0 a1 c0 c1 af bf (by rw [ak, bk, h])
  subst this
  rw [← av, ← bv]
theorem Good.keys {s : St} {q : List (List Int)} {p : Nat} (G : Good s q p) : ∀ a : Int, 0 ≤ a → a < s.tab.length → (tg s.tab a).full = true → 0 ≤ (tg s.tab a).key ∧ (tg s.tab a).key < 18446744073709551616 := by
  intro a a0 a1 af
  obtain ⟨h1, h2⟩ := (G.tin (tg s.tab a).key (tg s.tab a).num).1 ⟨a, a0, a1, af, rfl, rfl⟩
  rw [← h2]
  exact G.ks _ h1
theorem sum_set (q : List (List Int)) : ∀ (t : Nat) (c : List Int), t < q.length → total (q.set t c) + (q.getD t []).length = total q + c.length := by
  unfold total
  induction q with
  | nil => intro t c h; simp at h
  | cons x r ih =>
    intro t c h
    cases t with
    | zero => simp; omega
    | succ t =>
      have := ih t c (by simpa using h)
      simp at this ⊢
      omega
theorem inQ_set {q : List (List Int)} {t : Nat} {c : List Int} (ht : t < q.length) (i : Int) : inQ (q.set t c) i ↔ i ∈ c ∨ ∃ u : Nat, u < q.length ∧ u ≠ t ∧ i ∈ q.getD u [] := by
  unfold inQ
  rw [List.length_set]
  constructor
  · rintro ⟨u, hu, h⟩
    rw [getD_set q t c _ u ht] at h
    by_cases e : t = u
    · rw [if_pos e] at h; exact .inl h
    · rw [if_neg e] at h; exact .inr ⟨u, hu, fun h' => e h'.symm, h⟩
  · rintro (h | ⟨u, hu, hne, h⟩)
    · exact ⟨t, ht, by rw [getD_set q t c _ t ht, if_pos rfl]; exact h⟩
    · exact ⟨u, hu, by rw [getD_set q t c _ u ht, if_neg (fun e => hne e.symm)]; exact h⟩
end Go.Proofs.Ytlakojncjldpbaa
