/- The cache of low inter-reference recency: prune. -/
import Derived.Test.YtlakojncjldpbaaLc4
namespace Go.Proofs.Ytlakojncjldpbaa
open Go.RowKit Go.Shelf Hop
set_option linter.unusedVariables false
set_option linter.unusedSimpArgs false
set_option maxRecDepth 100000
attribute [local go_sem] Oper.semAt_some
theorem fr_grown {W W' : World} {row : Option Nat} (h : W.grownBy W' row) : Fr (fun k => row = some k) W W' := ⟨h.os, h.tape, h.output, h.size, fun k hk hn => h.block k hk (fun e => hn e.symm)⟩
theorem not_cells {W : World} {r : Nat} {o : Obj} (h : W.heap[r]? = some o) (hc : o.isCells = false) {cs : List Value} {T : Nat} : ¬ Blk W r cs T := by
  intro hb
  unfold Blk at hb
  rw [h] at hb
  injection hb with hb
  subst hb
  cases hc
theorem own_blk {β : Type} (B b : Nat) (cs : List Value) (T : Nat) : OwnFrom B (fun (_ : β) W => Blk W b cs T) := by
  intro s W W' row h hg hr
  refine (fr_grown hg).blk (fun e => ?_) h
  obtain ⟨_, o, h1, h2⟩ := hr b e
  exact not_cells h1 h2 h
theorem own_lca {β : Type} {B px : Nat} {O : Nat → Prop} {w : World} (f : β → LS) (p1 p2 : β → Nat) (hB : w.heap.size ≤ B) : OwnFrom B (fun b W => ∃ O', Lca W px O' (f b) (p1 b) (p2 b) ∧ Chg O O' w W) := by
  rintro s W W' row ⟨O', h1, h2⟩ hg hr
  have F := fr_grown hg
  refine ⟨O', h1.frame F (fun k hk e => ?_), h2.fr.trans F (fun i e => .inr (Nat.le_trans hB (hr i e).1)), h2.own⟩
  obtain ⟨_, o, g1, g2⟩ := hr k e
  obtain ⟨cs, T, hb⟩ := Lcr.cells h1 hk
  exact not_cells g1 g2 hb
theorem keepsFrom_fr {B : Nat} {W W' : World} {own : Nat → Prop} (f : Fr own W W') (hc : ∀ k, own k → ∃ cs T, Blk W k cs T) : KeepsFrom B W W' := by
  refine ⟨f.size, fun k o _ hk ho => ?_⟩
  rw [f.block k (Array.getElem?_eq_some_iff.1 hk).1 (fun h => ?_)]
  · exact hk
  · obtain ⟨cs, T, hb⟩ := hc k h
    exact not_cells hk ho hb
theorem Lca.kept {w w' : World} {px : Nat} {O O' : Nat → Prop} {s : LS} {p1 p2 : Nat} (H : Lca w px O s p1 p2) (hc : Chg O O' w w') (B : Nat) (v : Value) (l : List Int) (B' : Nat) : KeepsFrom B' w w' ∧ Kept2 B v l w w' :=
  ⟨keepsFrom_fr hc.fr (fun k hk => Lcr.cells H hk), kept2_fr hc.fr (fun b cs T hb hT => by
    rcases hT with rfl | rfl
    · exact Lcr.typ H hb (by decide) (by decide)
    · exact Lcr.typ H hb (by decide) (by decide))⟩
/-- What prune does, key by key. -/
def pruneRun (S : List LI) : List Int → List LI × Bool
  | [] => (S, false)
  | x :: r => if kindOf S x = 2 then (S, true) else pruneRun (woL S x) r
theorem pruneRun_stop {S : List LI} : ∀ {pre : List Int} {r : List Int}, (pruneRun S pre).2 = true → pruneRun S (pre ++ r) = pruneRun S pre := by
  intro pre
  induction pre generalizing S with
  | nil => intro r h; cases h
  | cons x p ih =>
    intro r h
    rw [List.cons_append]
    unfold pruneRun at h ⊢
    split
    · rfl
    · rename_i hx
      rw [if_neg hx] at h
      exact ih h
theorem pruneRun_go {S : List LI} : ∀ {pre : List Int} {x : Int}, (pruneRun S pre).2 = false → pruneRun S (pre ++ [x]) = if kindOf (pruneRun S pre).1 x = 2 then ((pruneRun S pre).1, true) else (woL (pruneRun S pre).1 x, false) := by
  intro pre
  induction pre generalizing S with
  | nil => intro x _; rfl
  | cons y p ih =>
    intro x h
    rw [List.cons_append]
    unfold pruneRun at h ⊢
    split
    · rename_i hy
      rw [if_pos hy] at h
      cases h
    · rename_i hy
      rw [if_neg hy] at h
      exact ih h
theorem pruneRun_sub {S : List LI} : ∀ {pre : List Int}, (pruneRun S pre).1.Sublist S := by
  intro pre
  induction pre generalizing S with
  | nil => exact List.Sublist.refl _
  | cons y p ih =>
    unfold pruneRun
    split
    · exact List.Sublist.refl _
    · exact ih.trans (woL_sub _ _)
theorem woL_last {A : List LI} {x : LI} (nd : (keysL (A ++ [x])).Nodup) : woL (A ++ [x]) x.key = A := by
  have hx : x.key ∉ keysL A := by
    rw [keysL_append] at nd
    intro h
    exact (List.nodup_append.1 nd).2.2 _ h x.key (by simp [keysL]) rfl
  have e : woL (A ++ [x]) x.key = woL A x.key ++ woL [x] x.key := by unfold woL; rw [List.filter_append]
  rw [e, woL_id hx]
  simp [woL]
theorem pruneRun_all (S : List LI) (nd : (keysL S).Nodup) : (pruneRun S (keysL S).reverse).1 = pruneL S := by
  rcases List.eq_nil_or_concat S with rfl | ⟨A, x, rfl⟩
  · rfl
  · rw [List.concat_eq_append] at nd ⊢
    have e : (keysL (A ++ [x])).reverse = x.key :: (keysL A).reverse := by rw [keysL_append]; simp [keysL]
    have hk : kindOf (A ++ [x]) x.key = x.kind := kindOf_mem nd (by simp)
    rw [e]
    unfold pruneRun
    rw [hk]
    by_cases h : x.kind = 2
    · rw [if_pos h, pruneL_hot A h]
    · rw [if_neg h, pruneL_not A h, woL_last nd]
      exact pruneRun_all A (by rw [keysL_append] at nd; exact (List.nodup_append.1 nd).1)
termination_by S.length
decreasing_by simp_all
theorem kv_snoc (pre : List K64) (x : K64) : kv (pre ++ [x]) = kv pre ++ [x.1] := by unfold kv; simp
theorem kv_reverse (L : List K64) : kv L.reverse = (kv L).reverse := by unfold kv; simp
theorem kv_prefix {a b : List K64} (h : a <+: b) : ∃ r, kv b = kv a ++ r := by
  obtain ⟨r, rfl⟩ := h
  exact ⟨kv r, by unfold kv; simp⟩
set_option maxHeartbeats 3200000 in
theorem prune_ca {px : Nat} {O : Nat → Prop} {s : LS} {p1 p2 : Nat} (w : World) (hks : ∀ x ∈ s.s, x.kind = 0 ∨ x.kind = 1 ∨ x.kind = 2) (H : Lca w px O s p1 p2) :
    Calls Try.prog 147 #[P0 px] w fun e w' => e = .returned (.tuple #[]) ∧ ∃ O', Lca w' px O' (pruneS s) p1 p2 ∧ Chg O O' w w' := by
  obtain ⟨L, hL⟩ := k64_ex (keysL s.s) (fun k hk => Lcr.ks H hk)
  have nd := Lcr.nd H
  have hLl : L.length < 100000 := by
    have h1 := Lcr.len H
    have h2 : (kv L).length = s.s.length := by rw [hL, keysL_len]
    have h3 : (kv L).length = L.length := List.length_map _
    omega
  have HKS := Go.Lib.hid (fun (pre : List Int) x (h : x ∈ (pruneRun s.s pre).1) => hks x (pruneRun_sub.subset h))
  refine callsIn_wide (n := 4).1 ?_
  have hro : Fence.wide.round = none := rfl
  refine callsIn_of_wp_marks Try.func147 rfl trivial ?_ hro
  simp only [Try.ntmps147, List.size_toArray, List.length_cons, List.length_nil, Nat.reduceAdd, Nat.reduceSub, Array.replicate_succ, Array.replicate_zero, List.push_toArray, List.append_toArray, List.nil_append, List.cons_append]
  gi_wp2_with (refine ⟨trivial, ?_⟩; gi_at_call 192; refine (callsIn_wide.2 (backwards_ca _ (H.keep ((Below.refl _ _).alloc (Nat.le_refl _) _)))).mono ?_; rintro e w1 ⟨v, B, rfl, hge, hB, hv, hb⟩)
  have A0 : Below w.heap.size w (w.alloc (.cells #[P0 px] 83)) := (Below.refl _ _).alloc (Nat.le_refl _) _
  have bP : Blk w1 w.heap.size [P0 px] 83 := (Blk.new0 w [P0 px] 83).keep hb
  have hbW : Below w.heap.size w w1 := A0.trans (hb.mono A0.size)
  have hl1 := H.keep hbW
  have HSEQ : SeqStopsK Fence.wide 3 Try.prog 225 #[P0 B] (fun x : K64 => #[Value.int .u64 x.1]) (Kept2 B v (kv L)) (fun ys => ys = L.reverse) (fun pre => pre <+: L.reverse) L.length w1 := by
    intro l J Jx W hW hJ hJx hY h0
    exact back1_in L W l B v hLl J Jx hJ hY (hB.keep hW) (by rw [hL]; exact hv.keep hW) h0
  have hsz := hbW.size
  refine wpIn_rangeFunc_ownG hro (by decide : 1 ≤ 4) (gf := 225) (lb := #[P0 B]) rfl trivial (enters_of Try.func225 (by kernel_rfl) rfl)
    HSEQ kept2_trans (fun W l o o' hl h hc hw => kept2_putObj W l o o' h hc) (Below.refl _ _) (fun _ => rfl)
    (fun pre W => (pruneRun s.s (kv pre)).2 = false ∧ (∃ O', Lca W px O' ⟨s.c, (pruneRun s.s (kv pre)).1, s.q⟩ p1 p2 ∧ Chg O O' w W) ∧ Blk W w.heap.size [P0 px] 83)
    (fun c pre W => (c = .ret ∧ (pruneRun s.s (kv pre)).2 = true) ∧ (∃ O', Lca W px O' ⟨s.c, (pruneRun s.s (kv pre)).1, s.q⟩ p1 p2 ∧ Chg O O' w W))
    (OwnFrom.and (ownFrom_pure _ _) (OwnFrom.and (own_lca (fun pre : List K64 => ⟨s.c, (pruneRun s.s (kv pre)).1, s.q⟩) (fun _ => p1) (fun _ => p2) hsz) (own_blk _ _ _ _)))
    (fun c => OwnFrom.and (ownFrom_pure _ _) (own_lca (fun pre : List K64 => ⟨s.c, (pruneRun s.s (kv pre)).1, s.q⟩) (fun _ => p1) (fun _ => p2) hsz))
    ⟨rfl, ⟨O, hl1, Chg.of_below hbW⟩, bP⟩
    (fun x => { tmps := #[P0 px, P0 w.heap.size, .int .u64 x.1, P0 px, .func (.func 225) #[] #[P0 B], .int .u64 x.1, undef, undef, undef, undef, undef, undef, undef, undef, undef, undef], defers := [] }) ?assign ?body ?done ?stop
  case assign =>
    intro l x W K hK
    gi_wp2
    exact hK
  case body =>
    rintro l pre x W ⟨h1, ⟨O', hLc, hC⟩, hP⟩ hlt
    have hgo := pruneRun_go (x := x.1) h1
    have hks' := HKS.out (kv pre)
    rw [← kv_snoc] at hgo
    generalize (pruneRun s.s (kv pre)).1 = T at hgo hks' hLc
    have HTK := Go.Lib.hid (fun (w' : World) (hb : Below W.heap.size W w') => take_ca (w := w') x.1 x.2.1 x.2.2 hks' (hLc.keep hb))
    have hP0 := hP.cell 0
    have lP := hP.lt
    obtain ⟨ps, pq, O1, O2, hp, hO⟩ := hLc
    have c0 := hp.x.cell 0
    have lx := hp.x.lt
    simp only [List.getElem?_cons_zero] at hP0 c0
    have HFL := Go.Lib.hid (flag_l x.1 W x.2.1 x.2.2 hp.st)
    have HLc : Hid (Lca W px O' ⟨s.c, T, s.q⟩ p1 p2) := Go.Lib.hid ⟨ps, pq, O1, O2, hp, hO⟩
    have HC := Go.Lib.hid hC
    have HPP := Go.Lib.hid hP
    have HPC : Hid (∀ W', Below W.heap.size W W' → W'.cell? ⟨w.heap.size, 0, none⟩ = some (P0 px)) := Go.Lib.hid (fun W' hb => by simpa using (hP.keep hb).cell 0)
    clear hp hP hC h1 hks'
    by_cases h2 : kindOf T x.1 = 2
    · rw [if_pos h2] at hgo
      have HGO := Go.Lib.hid hgo
      rw [h2] at HFL
      clear h2 hgo
      gi_wp2_with (refine ⟨trivial, ?_⟩; gi_at_call 142; refine (CallsIn.inRound l (callsIn_wide.2 HFL.out)).mono ?_; rintro e w2 ⟨rfl, hb2⟩)
      have K := (HLc.out.keep hb2)
      obtain ⟨k1, k2⟩ := HLc.out.kept (Chg.of_below hb2) B v (kv L) w1.heap.size
      refine ⟨k1, ⟨rfl, ?_⟩, O', ?_, HC.out.below hb2⟩
      · rw [HGO.out]
      · rw [HGO.out]; exact K
    · rw [if_neg h2] at hgo
      have HGO := Go.Lib.hid hgo
      clear hgo
      gi_wp2_with (first | (refine ⟨trivial, ?_⟩; gi_at_call 142; refine (CallsIn.inRound l (callsIn_wide.2 HFL.out)).mono ?_; rintro e w2 ⟨rfl, hb2⟩; have hP1 := HPC.out w2 hb2; have lP1 := hb2.size; have HB2 := Go.Lib.hid hb2; clear hb2) | (refine ⟨trivial, ?_⟩; gi_at_call 148; refine (CallsIn.inRound l (callsIn_wide.2 (HTK.out _ HB2.out))).mono ?_; rintro e w3 ⟨rfl, O'', h3, h4⟩))
      have C3 := (Chg.of_below (O := O') HB2.out).trans h4
      obtain ⟨k1, k2⟩ := HLc.out.kept C3 B v (kv L) w1.heap.size
      refine ⟨k1, k2, ?_, ⟨O'', ?_, HC.out.trans C3⟩, ?_⟩
      · rw [HGO.out]
      · rw [HGO.out]; exact h3
      · exact C3.fr.blk (Lcr.typ HLc.out HPP.out (by decide) (by decide)) HPP.out
  case done =>
    rintro D ys W hD rfl ⟨h1, ⟨O', hLc, hC⟩, hP⟩ hK
    gi_wp2
    refine ⟨by simp, .inl ⟨_, _, rfl, run_takeDeferred hK, ?_⟩⟩
    refine ⟨_, results_none rfl _ _ _, rfl, ?_⟩
    have hDw : w.heap.size ≤ D := Nat.le_trans hsz hD
    have q := own_lca (fun _ : Unit => ⟨s.c, pruneL s.s, s.q⟩) (fun _ => p1) (fun _ => p2) hDw () W _ (some D) ⟨O', by rw [← pruneRun_all s.s nd, ← hL, ← kv_reverse]; exact hLc, hC⟩ (grownBy_putObj' W D (.deferred none)) (fun r e => by cases e; exact ⟨Nat.le_refl _, _, hK, rfl⟩)
    exact q
  case stop =>
    rintro D c pre W hD hpre ⟨⟨rfl, h1⟩, O', hLc, hC⟩ hK
    gi_wp2
    refine ⟨by simp, .inl ⟨_, _, rfl, run_takeDeferred hK, ?_⟩⟩
    refine ⟨_, results_none rfl _ _ _, rfl, ?_⟩
    have hDw : w.heap.size ≤ D := Nat.le_trans hsz hD
    have q := own_lca (fun _ : Unit => ⟨s.c, pruneL s.s, s.q⟩) (fun _ => p1) (fun _ => p2) hDw () W _ (some D) ⟨O', by (obtain ⟨r, hr⟩ := kv_prefix hpre); rw [← pruneRun_all s.s nd, ← hL, ← kv_reverse, hr, pruneRun_stop h1]; exact hLc, hC⟩ (grownBy_putObj' W D (.deferred none)) (fun r e => by cases e; exact ⟨Nat.le_refl _, _, hK, rfl⟩)
    exact q
end Go.Proofs.Ytlakojncjldpbaa
