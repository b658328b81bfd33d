/- The cache of low inter-reference recency: how it lies; room. -/
import Derived.Test.YtlakojncjldpbaaLb3
import Derived.Test.YtlakojncjldpbaaTwo
import Derived.Deep.RegionHeld3
namespace Go.Proofs.Ytlakojncjldpbaa
open Go.RowKit Hop
set_option linter.unusedVariables false
set_option linter.unusedSimpArgs false
set_option maxRecDepth 100000
/-- The cache, with its counts as they lie. -/
structure Lcp (w : World) (px ps pq : Nat) (O1 O2 : Nat → Prop) (s : LS) (m0 m1 m2 : Int) (p1 p2 : Nat) : Prop where
  x : Blk w px [P0 ps, P0 pq, .int .i64 m0, .int .i64 m1, .int .i64 m2, .int .i64 s.c] 140
  st : Sta w ps O1 [s.s.map lE] p1
  qu : Sta w pq O2 (qN [s.q]) p2
  d : ¬ O1 px ∧ ¬ O2 px ∧ ∀ k, O1 k → ¬ O2 k
abbrev own2 (px : Nat) (O1 O2 : Nat → Prop) : Nat → Prop := fun k => k = px ∨ O1 k ∨ O2 k
/-- The cache; these blocks are its own. -/
def Lcr (w : World) (px : Nat) (O : Nat → Prop) (s : LS) (m0 m1 m2 : Int) (p1 p2 : Nat) : Prop := ∃ ps pq O1 O2, Lcp w px ps pq O1 O2 s m0 m1 m2 p1 p2 ∧ O = own2 px O1 O2
theorem Sta.cells {w : World} {ps : Nat} {O : Nat → Prop} {Q : List (List En)} {p : Nat} (H : Sta w ps O Q p) {k : Nat} (hk : O k) : ∃ cs T, Blk w k cs T := by
  obtain ⟨L, s, q, rfl, rfl, R, G, rfl⟩ := H
  rcases hk with rfl | rfl | rfl | rfl | rfl | rfl | rfl | hk
  · exact ⟨_, _, R.hs⟩
  · exact ⟨_, _, R.hl⟩
  · exact ⟨_, _, R.ha⟩
  · exact ⟨_, _, R.ht⟩
  · exact ⟨_, _, R.bl⟩
  · exact ⟨_, _, R.ba⟩
  · exact ⟨_, _, R.bt⟩
  · obtain ⟨_, cs, h⟩ := R.fr.lt hk
    exact ⟨_, _, h⟩
section
variable {w w' : World} {px ps pq : Nat} {O1 O2 : Nat → Prop} {s : LS} {m0 m1 m2 : Int} {p1 p2 : Nat}
theorem Lcp.keep (h : Lcp w px ps pq O1 O2 s m0 m1 m2 p1 p2) (hb : Below w.heap.size w w') : Lcp w' px ps pq O1 O2 s m0 m1 m2 p1 p2 := ⟨h.x.keep hb, h.st.keep hb, h.qu.keep hb, h.d⟩
theorem Lcp.frame (h : Lcp w px ps pq O1 O2 s m0 m1 m2 p1 p2) {own : Nat → Prop} (hf : Fr own w w') (hn : ∀ k, own2 px O1 O2 k → ¬ own k) : Lcp w' px ps pq O1 O2 s m0 m1 m2 p1 p2 :=
  ⟨hf.blk (fun e => hn px (.inl rfl) e) h.x, h.st.frame hf (fun k hk => hn k (.inr (.inl hk))), h.qu.frame hf (fun k hk => hn k (.inr (.inr hk))), h.d⟩
theorem Lcp.cells (h : Lcp w px ps pq O1 O2 s m0 m1 m2 p1 p2) {k : Nat} (hk : own2 px O1 O2 k) : ∃ cs T, Blk w k cs T := by
  rcases hk with rfl | hk | hk
  · exact ⟨_, _, h.x⟩
  · exact h.st.cells hk
  · exact h.qu.cells hk
theorem Lcp.lt (h : Lcp w px ps pq O1 O2 s m0 m1 m2 p1 p2) {k : Nat} (hk : own2 px O1 O2 k) : k < w.heap.size := by
  obtain ⟨cs, T, h⟩ := h.cells hk
  exact h.lt
theorem Lcp.typ (H : Lcp w px ps pq O1 O2 s m0 m1 m2 p1 p2) {b : Nat} {cs : List Value} {T : Nat} (hb : Blk w b cs T) (h0 : T ≠ 140)
    (hT : T ≠ 160 ∧ T ≠ 192 ∧ T ≠ 189 ∧ T ≠ 195 ∧ T ≠ 208 ∧ T ≠ 201 ∧ T ≠ 213 ∧ T ≠ 21) : ¬ own2 px O1 O2 b := by
  rintro (e | e | e)
  · exact hb.ne H.x h0 e
  · exact H.st.typ hb hT e
  · exact H.qu.typ hb hT e
theorem Lcp.kl {v : Value} {L : List Int} (H : Lcp w px ps pq O1 O2 s m0 m1 m2 p1 p2) (h : KL w v L) : ∀ b, v.ownBlock = some b → ¬ own2 px O1 O2 b := by
  intro b hb
  obtain ⟨_, cs, h'⟩ := Row.lt h hb
  exact H.typ h' (by decide) (by decide)
/-- The stack's store turned. -/
theorem Lcp.stk {S : List LI} {p1' : Nat} {O1' : Nat → Prop} (h : Lcp w px ps pq O1 O2 s m0 m1 m2 p1 p2) (h2 : Sta w' ps O1' [S.map lE] p1') (hc : Chg O1 O1' w w') :
    Lcp w' px ps pq O1' O2 ⟨s.c, S, s.q⟩ m0 m1 m2 p1' p2 ∧ Chg (own2 px O1 O2) (own2 px O1' O2) w w' := by
  have b3 : ¬ O1' px ∧ ¬ O2 px ∧ ∀ k, O1' k → ¬ O2 k := by
    refine ⟨fun h' => ?_, h.d.2.1, fun k hk ho => ?_⟩
    · rcases hc.own px h' with h' | h'
      · exact h.d.1 h'
      · have := h.x.lt; omega
    · rcases hc.own k hk with h' | h'
      · exact h.d.2.2 k h' ho
      · have := h.qu.lt ho; omega
  refine ⟨⟨hc.fr.blk h.d.1 h.x, h2, h.qu.frame hc.fr (fun k hk ho => h.d.2.2 k ho hk), b3⟩, hc.fr.mono (fun k hk => .inr (.inl hk)), ?_⟩
  rintro k (h' | h' | h')
  · exact .inl (.inl h')
  · rcases hc.own k h' with h' | h'
    · exact .inl (.inr (.inl h'))
    · exact .inr h'
  · exact .inl (.inr (.inr h'))
/-- The queue's store turned. -/
theorem Lcp.que {q : List Int} {p2' : Nat} {O2' : Nat → Prop} (h : Lcp w px ps pq O1 O2 s m0 m1 m2 p1 p2) (h3 : Sta w' pq O2' (qN [q]) p2') (hc : Chg O2 O2' w w') :
    Lcp w' px ps pq O1 O2' ⟨s.c, s.s, q⟩ m0 m1 m2 p1 p2' ∧ Chg (own2 px O1 O2) (own2 px O1 O2') w w' := by
  have b3 : ¬ O1 px ∧ ¬ O2' px ∧ ∀ k, O1 k → ¬ O2' k := by
    refine ⟨h.d.1, fun h' => ?_, fun k hk ho => ?_⟩
    · rcases hc.own px h' with h' | h'
      · exact h.d.2.1 h'
      · have := h.x.lt; omega
    · rcases hc.own k ho with h' | h'
      · exact h.d.2.2 k hk h'
      · have := h.st.lt hk; omega
  refine ⟨⟨hc.fr.blk h.d.2.1 h.x, h.st.frame hc.fr (fun k hk ho => h.d.2.2 k hk ho), h3, b3⟩, hc.fr.mono (fun k hk => .inr (.inr hk)), ?_⟩
  rintro k (h' | h' | h')
  · exact .inl (.inl h')
  · exact .inl (.inr (.inl h'))
  · rcases hc.own k h' with h' | h'
    · exact .inl (.inr (.inr h'))
    · exact .inr h'
/-- A count turned. -/
theorem Lcp.num (h : Lcp w px ps pq O1 O2 s m0 m1 m2 p1 p2) (j : Nat) (v : Value) {n0 n1 n2 c : Int}
    (e : ∀ a b : Value, [a, b, .int .i64 m0, .int .i64 m1, .int .i64 m2, .int .i64 s.c].set j v = [a, b, .int .i64 n0, .int .i64 n1, .int .i64 n2, .int .i64 c]) :
    Lcp (w.setCell ⟨px, j, none⟩ v) px ps pq O1 O2 ⟨c, s.s, s.q⟩ n0 n1 n2 p1 p2 ∧ Chg (own2 px O1 O2) (own2 px O1 O2) w (w.setCell ⟨px, j, none⟩ v) := by
  have F : Fr (fun k => k = px) w (w.setCell ⟨px, j, none⟩ v) := (Fr.refl (fun k => k = px) w).setEq rfl v
  refine ⟨⟨?_, h.st.frame F (fun k hk e => h.d.1 (e ▸ hk)), h.qu.frame F (fun k hk e => h.d.2.1 (e ▸ hk)), h.d⟩, F.mono (fun k hk => .inl hk), fun _ h => .inl h⟩
  have := h.x.set j v
  rwa [e] at this
theorem Lcp.drew (h : Lcp w px ps pq O1 O2 s m0 m1 m2 p1 p2) : Lcp w.drew px ps pq O1 O2 s m0 m1 m2 p1 p2 := h.keep (Below.refl _ _).drew
end
theorem Chg.drew {O O' : Nat → Prop} {w w' : World} (h : Chg O O' w w') : Chg O O' w w'.drew := h.below (Below.refl _ _).drew
section
variable {w w' : World} {px : Nat} {O : Nat → Prop} {s : LS} {m0 m1 m2 : Int} {p1 p2 : Nat}
theorem Lcr.keep (h : Lcr w px O s m0 m1 m2 p1 p2) (hb : Below w.heap.size w w') : Lcr w' px O s m0 m1 m2 p1 p2 := by
  obtain ⟨ps, pq, O1, O2, h, e⟩ := h
  exact ⟨ps, pq, O1, O2, h.keep hb, e⟩
theorem Lcr.frame (h : Lcr w px O s m0 m1 m2 p1 p2) {own : Nat → Prop} (hf : Fr own w w') (hn : ∀ k, O k → ¬ own k) : Lcr w' px O s m0 m1 m2 p1 p2 := by
  obtain ⟨ps, pq, O1, O2, h, rfl⟩ := h
  exact ⟨ps, pq, O1, O2, h.frame hf hn, rfl⟩
theorem Lcr.typ (H : Lcr w px O s m0 m1 m2 p1 p2) {b : Nat} {cs : List Value} {T : Nat} (hb : Blk w b cs T) (h0 : T ≠ 140)
    (hT : T ≠ 160 ∧ T ≠ 192 ∧ T ≠ 189 ∧ T ≠ 195 ∧ T ≠ 208 ∧ T ≠ 201 ∧ T ≠ 213 ∧ T ≠ 21) : ¬ O b := by
  obtain ⟨ps, pq, O1, O2, h, rfl⟩ := H
  exact h.typ hb h0 hT
theorem Lcr.cells (H : Lcr w px O s m0 m1 m2 p1 p2) {k : Nat} (hk : O k) : ∃ cs T, Blk w k cs T := by
  obtain ⟨ps, pq, O1, O2, h, rfl⟩ := H
  exact h.cells hk
theorem Lcr.lt (H : Lcr w px O s m0 m1 m2 p1 p2) {k : Nat} (hk : O k) : k < w.heap.size := by
  obtain ⟨cs, T, h⟩ := H.cells hk
  exact h.lt
theorem Lcr.kl {v : Value} {L : List Int} (H : Lcr w px O s m0 m1 m2 p1 p2) (h : KL w v L) : ∀ b, v.ownBlock = some b → ¬ O b := by
  obtain ⟨ps, pq, O1, O2, h', rfl⟩ := H
  exact h'.kl h
theorem Lcr.nd (H : Lcr w px O s m0 m1 m2 p1 p2) : (keysL s.s).Nodup := by
  obtain ⟨ps, pq, O1, O2, h, e⟩ := H
  exact nd_lE h.st.qok
theorem Lcr.nq (H : Lcr w px O s m0 m1 m2 p1 p2) : s.q.Nodup := by
  obtain ⟨ps, pq, O1, O2, h, e⟩ := H
  exact nd_q h.qu.qok
theorem Lcr.len (H : Lcr w px O s m0 m1 m2 p1 p2) : s.s.length ≤ p1 ∧ p1 < 50000 ∧ s.q.length ≤ p2 ∧ p2 < 50000 := by
  obtain ⟨ps, pq, O1, O2, h, e⟩ := H
  have h1 := len_lE h.st.qok
  have h2 := len_q h.qu.qok
  exact ⟨h1.1, h1.2, h2.1, h2.2⟩
theorem Lcr.ks (H : Lcr w px O s m0 m1 m2 p1 p2) {k : Int} (hk : k ∈ keysL s.s) : 0 ≤ k ∧ k < 18446744073709551616 := by
  obtain ⟨ps, pq, O1, O2, h, e⟩ := H
  exact ks_lE h.st.qok hk
theorem Lcr.kq (H : Lcr w px O s m0 m1 m2 p1 p2) {k : Int} (hk : k ∈ s.q) : 0 ≤ k ∧ k < 18446744073709551616 := by
  obtain ⟨ps, pq, O1, O2, h, e⟩ := H
  exact ks_q h.qu.qok hk
end
set_option maxHeartbeats 800000 in
theorem room_any (px : Nat) (cs : List Value) (c : Int) (w : World) (hc : 1 ≤ c ∧ c ≤ 199) (hx : Blk w px cs 140) (h5 : cs[5]? = some (.int .i64 c)) :
    Calls Try.prog 150 #[P0 px] w fun e w' => e = .returned (.int .i64 (c - 1)) ∧ w' = w.drew := by
  have c5 := hx.cell 5
  rw [h5] at c5
  have lx := hx.lt
  have hd : c.tdiv 100 = 0 ∨ c.tdiv 100 = 1 := by
    have : c.tdiv 100 = c / 100 := Int.tdiv_eq_ediv_of_nonneg (by omega)
    omega
  have hm : max (c.tdiv 100) 1 = 1 := by omega
  clear hx h5
  go_enter Try.func150, Try.ntmps150
  go_wp2_with fail
  go_region
  all_goals (go_wp2_with fail)
  all_goals go_ret
  all_goals refine ⟨?_, rfl⟩
  all_goals first | rfl | (show Ending.returned (Value.int .i64 _) = Ending.returned (Value.int .i64 _); congr 2; omega)
end Go.Proofs.Ytlakojncjldpbaa
