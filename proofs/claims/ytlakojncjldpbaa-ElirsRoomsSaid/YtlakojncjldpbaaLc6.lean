/- The cache of low inter-reference recency: forget. -/
import Derived.Test.YtlakojncjldpbaaLc5
import Derived.Test.YtlakojncjldpbaaRd
namespace Go.Proofs.Ytlakojncjldpbaa
open Go.RowKit Go.Shelf Hop
set_option linter.unusedVariables false
set_option linter.unusedSimpArgs false
set_option maxRecDepth 100000
attribute [local go_sem] Oper.semAt_some
/-- What forget does, key by key. -/
def forgetRun (c : Int) (S : List LI) : List Int → List LI × Bool
  | [] => (S, false)
  | x :: r => if (manyL S 0 : Int) ≤ c then (S, true) else forgetRun c (if kindOf S x = 0 then woL S x else S) r
theorem forgetRun_stop {c : Int} {S : List LI} : ∀ {pre : List Int} {r : List Int}, (forgetRun c S pre).2 = true → forgetRun c S (pre ++ r) = forgetRun c S pre := by
  intro pre
  induction pre generalizing S with
  | nil => intro r h; cases h
  | cons x p ih =>
    intro r h
    rw [List.cons_append]
    by_cases hy : (manyL S 0 : Int) ≤ c
    · simp only [forgetRun, if_pos hy]
    · simp only [forgetRun, if_neg hy] at h ⊢
      exact ih h
theorem forgetRun_go {c : Int} {S : List LI} : ∀ {pre : List Int} {x : Int}, (forgetRun c S pre).2 = false →
    forgetRun c S (pre ++ [x]) = if (manyL (forgetRun c S pre).1 0 : Int) ≤ c then ((forgetRun c S pre).1, true) else (if kindOf (forgetRun c S pre).1 x = 0 then woL (forgetRun c S pre).1 x else (forgetRun c S pre).1, false) := by
  intro pre
  induction pre generalizing S with
  | nil => intro x _; rfl
  | cons y p ih =>
    intro x h
    rw [List.cons_append]
    by_cases hy : (manyL S 0 : Int) ≤ c
    · simp only [forgetRun, if_pos hy] at h
      cases h
    · simp only [forgetRun, if_neg hy] at h ⊢
      exact ih h
theorem forgetRun_sub {c : Int} {S : List LI} : ∀ {pre : List Int}, (forgetRun c S pre).1.Sublist S := by
  intro pre
  induction pre generalizing S with
  | nil => exact List.Sublist.refl _
  | cons y p ih =>
    unfold forgetRun
    split
    · exact List.Sublist.refl _
    · split
      · exact ih.trans (woL_sub _ _)
      · exact ih
theorem woL_mid {A B : List LI} {x : LI} (nd : (keysL (A ++ x :: B)).Nodup) : woL (A ++ x :: B) x.key = A ++ B := by
  rw [keysL_append, keysL_cons] at nd
  obtain ⟨n1, n2, n3⟩ := List.nodup_append.1 nd
  obtain ⟨n4, n5⟩ := List.nodup_cons.1 n2
  have e : woL (A ++ x :: B) x.key = woL A x.key ++ woL (x :: B) x.key := by unfold woL; rw [List.filter_append]
  have e2 : woL (x :: B) x.key = woL B x.key := by unfold woL; rw [List.filter_cons, if_neg (by simp)]
  rw [e, e2, woL_id (fun h => n3 _ h x.key (by simp) rfl), woL_id n4]
theorem forgetRun_all (c : Int) (hc : 0 ≤ c) (A B : List LI) (nd : (keysL (A ++ B)).Nodup) (hB : ∀ y ∈ B, y.kind ≠ 0) : (forgetRun c (A ++ B) (keysL A).reverse).1 = forgetF c (A ++ B) := by
  rcases List.eq_nil_or_concat A with rfl | ⟨A, x, rfl⟩
  · rw [forgetF_step nd hc, List.nil_append, many_zero hB, if_pos (by omega)]
    rfl
  · rw [List.concat_eq_append] at nd ⊢
    have e : (keysL (A ++ [x])).reverse = x.key :: (keysL A).reverse := by rw [keysL_append]; simp [keysL]
    have e2 : A ++ [x] ++ B = A ++ x :: B := by simp
    rw [e2] at nd ⊢
    have hk : kindOf (A ++ x :: B) x.key = x.kind := kindOf_mem nd (by simp)
    rw [e]
    by_cases h : (manyL (A ++ x :: B) 0 : Int) ≤ c
    · rw [forgetF_step nd hc, if_pos h]
      simp only [forgetRun, if_pos h]
    · simp only [forgetRun, if_neg h, hk]
      by_cases h0 : x.kind = 0
      · rw [forgetF_step nd hc, if_neg h, if_pos h0, lastK_eq h0 hB, woL_mid nd]
        exact forgetRun_all c hc A B (by
          have := nd.sublist ((woL_sub (A ++ x :: B) x.key).map LI.key)
          rwa [woL_mid nd] at this) hB
      · rw [if_neg h0]
        exact forgetRun_all c hc A (x :: B) nd (fun y hy => by
          rcases List.mem_cons.1 hy with rfl | hy
          · exact h0
          · exact hB y hy)
termination_by A.length
decreasing_by all_goals simp_all
set_option maxHeartbeats 3200000 in
theorem forget_ca {px : Nat} {O : Nat → Prop} {s : LS} {p1 p2 : Nat} (w : World) (hks : ∀ x ∈ s.s, x.kind = 0 ∨ x.kind = 1 ∨ x.kind = 2) (hc : 0 ≤ s.c ∧ s.c < 1000000) (H : Lca w px O s p1 p2) :
    Calls Try.prog 151 #[P0 px] w fun e w' => e = .returned (.tuple #[]) ∧ ∃ O', Lca w' px O' (forgetS s) p1 p2 ∧ Chg O O' w w' := by
  obtain ⟨L, hL⟩ := k64_ex (keysL s.s) (fun k hk => Lcr.ks H hk)
  have nd := Lcr.nd H
  have hLl : L.length < 100000 := by
    have h1 := Lcr.len H
    have h2 : (kv L).length = s.s.length := by rw [hL, keysL_len]
    have h3 : (kv L).length = L.length := List.length_map _
    omega
  have HKS := Go.Lib.hid (fun (pre : List Int) x (h : x ∈ (forgetRun s.c s.s pre).1) => hks x (forgetRun_sub.subset h))
  refine callsIn_wide (n := 4).1 ?_
  have hro : Fence.wide.round = none := rfl
  refine callsIn_of_wp_marks Try.func151 rfl trivial ?_ hro
  simp only [Try.ntmps151, List.size_toArray, List.length_cons, List.length_nil, Nat.reduceAdd, Nat.reduceSub, Array.replicate_succ, Array.replicate_zero, List.push_toArray, List.append_toArray, List.nil_append, List.cons_append]
  gi_wp2_with (refine ⟨trivial, ?_⟩; gi_at_call 192; refine (callsIn_wide.2 (backwards_ca _ (H.keep ((Below.refl _ _).alloc (Nat.le_refl _) _)))).mono ?_; rintro e w1 ⟨v, B, rfl, hge, hB, hv, hb⟩)
  have A0 : Below w.heap.size w (w.alloc (.cells #[P0 px] 83)) := (Below.refl _ _).alloc (Nat.le_refl _) _
  have bP : Blk w1 w.heap.size [P0 px] 83 := (Blk.new0 w [P0 px] 83).keep hb
  have hbW : Below w.heap.size w w1 := A0.trans (hb.mono A0.size)
  have hl1 := H.keep hbW
  have HSEQ : SeqStopsK Fence.wide 3 Try.prog 225 #[P0 B] (fun x : K64 => #[Value.int .u64 x.1]) (Kept2 B v (kv L)) (fun ys => ys = L.reverse) (fun pre => pre <+: L.reverse) L.length w1 := by
    intro l J Jx W hW hJ hJx hY h0
    exact back1_in L W l B v hLl J Jx hJ hY (hB.keep hW) (by rw [hL]; exact hv.keep hW) h0
  have hsz := hbW.size
  refine wpIn_rangeFunc_ownG hro (by decide : 1 ≤ 4) (gf := 225) (lb := #[P0 B]) rfl trivial (enters_of Try.func225 (by kernel_rfl) rfl)
    HSEQ kept2_trans (fun W l o o' hl h hc hw => kept2_putObj W l o o' h hc) (Below.refl _ _) (fun _ => rfl)
    (fun pre W => (forgetRun s.c s.s (kv pre)).2 = false ∧ (∃ O', Lca W px O' ⟨s.c, (forgetRun s.c s.s (kv pre)).1, s.q⟩ p1 p2 ∧ Chg O O' w W) ∧ Blk W w.heap.size [P0 px] 83)
    (fun c pre W => (c = .ret ∧ (forgetRun s.c s.s (kv pre)).2 = true) ∧ (∃ O', Lca W px O' ⟨s.c, (forgetRun s.c s.s (kv pre)).1, s.q⟩ p1 p2 ∧ Chg O O' w W))
    (OwnFrom.and (ownFrom_pure _ _) (OwnFrom.and (own_lca (fun pre : List K64 => ⟨s.c, (forgetRun s.c s.s (kv pre)).1, s.q⟩) (fun _ => p1) (fun _ => p2) hsz) (own_blk _ _ _ _)))
    (fun c => OwnFrom.and (ownFrom_pure _ _) (own_lca (fun pre : List K64 => ⟨s.c, (forgetRun s.c s.s (kv pre)).1, s.q⟩) (fun _ => p1) (fun _ => p2) hsz))
    ⟨rfl, ⟨O, hl1, Chg.of_below hbW⟩, bP⟩
    (fun x => { tmps := #[P0 px, P0 w.heap.size, .int .u64 x.1, P0 px, .func (.func 225) #[] #[P0 B], .int .u64 x.1, undef, undef, undef, undef, undef, undef, undef, undef, undef, undef, undef, undef, undef, undef, undef, undef, undef, undef, undef, undef], defers := [] }) ?assign ?body ?done ?stop
  case assign =>
    intro l x W K hK
    gi_wp2
    exact hK
  case body =>
    rintro l pre x W ⟨h1, ⟨O', hLc, hC⟩, hP⟩ hlt
    have hgo := forgetRun_go (x := x.1) h1
    have hks' := HKS.out (kv pre)
    rw [← kv_snoc] at hgo
    generalize (forgetRun s.c s.s (kv pre)).1 = T at hgo hks' hLc
    have HTK := Go.Lib.hid (fun (w' : World) (hb : Below W.heap.size W w') => take_ca (w := w') x.1 x.2.1 x.2.2 hks' (hLc.keep hb))
    have hP0 := hP.cell 0
    have lP := hP.lt
    obtain ⟨ps, pq, O1, O2, hp, hO⟩ := hLc
    have c0 := hp.x.cell 0
    have c2 := hp.x.cell 2
    have c5 := hp.x.cell 5
    have lx := hp.x.lt
    simp only [List.getElem?_cons_zero, List.getElem?_cons_succ] at hP0 c0 c2 c5
    have HFL := Go.Lib.hid (flag_l x.1 W.drew x.2.1 x.2.2 hp.drew.st)
    have HLc : Hid (Lca W px O' ⟨s.c, T, s.q⟩ p1 p2) := Go.Lib.hid ⟨ps, pq, O1, O2, hp, hO⟩
    have HC := Go.Lib.hid hC
    have HPP := Go.Lib.hid hP
    have HPC : Hid (∀ W', Below W.heap.size W W' → W'.cell? ⟨w.heap.size, 0, none⟩ = some (P0 px)) := Go.Lib.hid (fun W' hb => by simpa using (hP.keep hb).cell 0)
    clear hp hP hC h1 hks'
    have HPD : Hid (W.drew.cell? ⟨w.heap.size, 0, none⟩ = some (P0 px)) := Go.Lib.hid hP0
    by_cases h2 : (manyL T 0 : Int) ≤ s.c
    · rw [if_pos h2] at hgo
      have HGO := Go.Lib.hid hgo
      clear hgo
      gi_wp2
      refine region_round (S := fun W' => W'.cell? ⟨w.heap.size, 0, none⟩ = some (P0 px) ∧ W'.cell? ⟨px, 2, none⟩ = some (.int .i64 (manyL T 0)) ∧ W'.cell? ⟨px, 5, none⟩ = some (.int .i64 s.c)) (by kernel_rfl) (by rintro ⟨a, w, h⟩; exact h) (by kernel_rfl) ⟨hP0, c2, c5⟩ (fun hHeld => ?_)
      refine wpAnyH_take (i := 0) (v := ?v0) rfl (by kernel_rfl) (by kernel_rfl) (by kernel_rfl) (fun _ _ _ h => h) (Or.inl ⟨by rfl, ?hy0⟩) (by assumption) ?rest0
      case hy0 => intro w' hSw; (try dsimp only at hSw); go_simp; first | done | with_reducible rfl
      try simp only [Act.put, List.getElem_toArray, List.getElem_cons_succ, List.getElem_cons_zero, List.setIfInBounds_toArray, List.set_cons_zero, List.set_cons_succ]
      refine wpAnyH_take (i := 1) (v := ?v1) rfl (by kernel_rfl) (by kernel_rfl) (by kernel_rfl) (fun _ _ _ h => h) (Or.inl ⟨by rfl, ?hy1⟩) (by assumption) ?rest1
      case hy1 => intro w' hSw; (try dsimp only at hSw); go_simp; first | done | with_reducible rfl
      try simp only [Act.put, List.getElem_toArray, List.getElem_cons_succ, List.getElem_cons_zero, List.setIfInBounds_toArray, List.set_cons_zero, List.set_cons_succ]
      refine wpAnyH_take (i := 2) (v := ?v2) rfl (by kernel_rfl) (by kernel_rfl) (by kernel_rfl) (fun _ _ _ h => h) (Or.inl ⟨by rfl, ?hy2⟩) (by assumption) ?rest2
      case hy2 => intro w' hSw; (try dsimp only at hSw); go_simp; first | done | with_reducible rfl
      try simp only [Act.put, List.getElem_toArray, List.getElem_cons_succ, List.getElem_cons_zero, List.setIfInBounds_toArray, List.set_cons_zero, List.set_cons_succ]
      refine wpAnyH_take (i := 3) (v := ?v3) rfl (by kernel_rfl) (by kernel_rfl) (by kernel_rfl) (fun _ _ _ h => h) (Or.inl ⟨by rfl, ?hy3⟩) (by assumption) ?rest3
      case hy3 => intro w' hSw; (try dsimp only at hSw); go_simp; first | done | with_reducible rfl
      try simp only [Act.put, List.getElem_toArray, List.getElem_cons_succ, List.getElem_cons_zero, List.setIfInBounds_toArray, List.set_cons_zero, List.set_cons_succ]
      refine wpAnyH_take (i := 4) (v := ?v4) rfl (by kernel_rfl) (by kernel_rfl) (by kernel_rfl) (fun _ _ _ h => h) (Or.inl ⟨by rfl, ?hy4⟩) (by assumption) ?rest4
      case hy4 => intro w' hSw; (try dsimp only at hSw); go_simp; first | done | with_reducible rfl
      try simp only [Act.put, List.getElem_toArray, List.getElem_cons_succ, List.getElem_cons_zero, List.setIfInBounds_toArray, List.set_cons_zero, List.set_cons_succ]
      refine wpAnyH_take (i := 5) (v := ?v5) rfl (by kernel_rfl) (by kernel_rfl) (by kernel_rfl) (fun _ _ _ h => h) (Or.inl ⟨by rfl, ?hy5⟩) (by assumption) ?rest5
      case hy5 => intro w' hSw; (try dsimp only at hSw); go_simp; first | done | with_reducible rfl
      try simp only [Act.put, List.getElem_toArray, List.getElem_cons_succ, List.getElem_cons_zero, List.setIfInBounds_toArray, List.set_cons_zero, List.set_cons_succ]
      refine wpAnyH_take (i := 6) (v := ?v6) rfl (by kernel_rfl) (by kernel_rfl) (by kernel_rfl) (fun _ _ _ h => h) (Or.inl ⟨by rfl, ?hy6⟩) (by assumption) ?rest6
      case hy6 => intro w' hSw; (try dsimp only at hSw); go_simp; first | done | with_reducible rfl
      try simp only [Act.put, List.getElem_toArray, List.getElem_cons_succ, List.getElem_cons_zero, List.setIfInBounds_toArray, List.set_cons_zero, List.set_cons_succ]
      refine wpAnyH_take (i := 7) (v := ?v7) rfl (by kernel_rfl) (by kernel_rfl) (by kernel_rfl) (fun _ _ _ h => h) (Or.inl ⟨by rfl, ?hy7⟩) (by assumption) ?rest7
      case hy7 => intro w' hSw; (try dsimp only at hSw); go_simp; first | done | with_reducible rfl
      try simp only [Act.put, List.getElem_toArray, List.getElem_cons_succ, List.getElem_cons_zero, List.setIfInBounds_toArray, List.set_cons_zero, List.set_cons_succ]
      refine wpAnyH_take (i := 8) (v := ?v8) rfl (by kernel_rfl) (by kernel_rfl) (by kernel_rfl) (fun _ _ _ h => h) (Or.inl ⟨by rfl, ?hy8⟩) (by assumption) ?rest8
      case hy8 => intro w' hSw; (try dsimp only at hSw); go_simp; first | done | with_reducible rfl
      try simp only [Act.put, List.getElem_toArray, List.getElem_cons_succ, List.getElem_cons_zero, List.setIfInBounds_toArray, List.set_cons_zero, List.set_cons_succ]
      refine wpAnyH_take (i := 9) (v := ?v9) rfl (by kernel_rfl) (by kernel_rfl) (by kernel_rfl) (fun _ _ _ h => h) (Or.inl ⟨by rfl, ?hy9⟩) (by assumption) ?rest9
      case hy9 => intro w' hSw; (try dsimp only at hSw); go_simp; first | done | with_reducible rfl
      try simp only [Act.put, List.getElem_toArray, List.getElem_cons_succ, List.getElem_cons_zero, List.setIfInBounds_toArray, List.set_cons_zero, List.set_cons_succ]
      refine wpAnyH_done (by kernel_rfl) ?_ _
      gi_wp2
      have DW : Below W.heap.size W W.drew := (Below.refl _ _).drew
      obtain ⟨k1, k2⟩ := HLc.out.kept (Chg.of_below DW) B v (kv L) w1.heap.size
      refine ⟨k1, ⟨rfl, ?_⟩, O', ?_, HC.out.drew⟩
      · rw [HGO.out]
      · rw [HGO.out]; exact HLc.out.keep DW
    · rw [if_neg h2] at hgo
      have DW : Below W.heap.size W W.drew := (Below.refl _ _).drew
      have HPE : Hid (W.drew.cell? ⟨px, 0, none⟩ = some (P0 ps)) := Go.Lib.hid c0
      by_cases h0 : kindOf T x.1 = 0
      · rw [if_pos h0] at hgo
        have HGO := Go.Lib.hid hgo
        rw [h0] at HFL
        clear hgo h0
        gi_wp2
        refine region_round (S := fun W' => W'.cell? ⟨w.heap.size, 0, none⟩ = some (P0 px) ∧ W'.cell? ⟨px, 2, none⟩ = some (.int .i64 (manyL T 0)) ∧ W'.cell? ⟨px, 5, none⟩ = some (.int .i64 s.c)) (by kernel_rfl) (by rintro ⟨a, w, h⟩; exact h) (by kernel_rfl) ⟨hP0, c2, c5⟩ (fun hHeld => ?_)
        refine wpAnyH_take (i := 0) (v := ?va0) rfl (by kernel_rfl) (by kernel_rfl) (by kernel_rfl) (fun _ _ _ h => h) (Or.inl ⟨by rfl, ?hya0⟩) (by assumption) ?resta0
        case hya0 => intro w' hSw; (try dsimp only at hSw); go_simp; first | done | with_reducible rfl
        try simp only [Act.put, List.getElem_toArray, List.getElem_cons_succ, List.getElem_cons_zero, List.setIfInBounds_toArray, List.set_cons_zero, List.set_cons_succ]
        refine wpAnyH_take (i := 1) (v := ?va1) rfl (by kernel_rfl) (by kernel_rfl) (by kernel_rfl) (fun _ _ _ h => h) (Or.inl ⟨by rfl, ?hya1⟩) (by assumption) ?resta1
        case hya1 => intro w' hSw; (try dsimp only at hSw); go_simp; first | done | with_reducible rfl
        try simp only [Act.put, List.getElem_toArray, List.getElem_cons_succ, List.getElem_cons_zero, List.setIfInBounds_toArray, List.set_cons_zero, List.set_cons_succ]
        refine wpAnyH_take (i := 2) (v := ?va2) rfl (by kernel_rfl) (by kernel_rfl) (by kernel_rfl) (fun _ _ _ h => h) (Or.inl ⟨by rfl, ?hya2⟩) (by assumption) ?resta2
        case hya2 => intro w' hSw; (try dsimp only at hSw); go_simp; first | done | with_reducible rfl
        try simp only [Act.put, List.getElem_toArray, List.getElem_cons_succ, List.getElem_cons_zero, List.setIfInBounds_toArray, List.set_cons_zero, List.set_cons_succ]
        refine wpAnyH_take (i := 3) (v := ?va3) rfl (by kernel_rfl) (by kernel_rfl) (by kernel_rfl) (fun _ _ _ h => h) (Or.inl ⟨by rfl, ?hya3⟩) (by assumption) ?resta3
        case hya3 => intro w' hSw; (try dsimp only at hSw); go_simp; first | done | with_reducible rfl
        try simp only [Act.put, List.getElem_toArray, List.getElem_cons_succ, List.getElem_cons_zero, List.setIfInBounds_toArray, List.set_cons_zero, List.set_cons_succ]
        refine wpAnyH_take (i := 4) (v := ?va4) rfl (by kernel_rfl) (by kernel_rfl) (by kernel_rfl) (fun _ _ _ h => h) (Or.inl ⟨by rfl, ?hya4⟩) (by assumption) ?resta4
        case hya4 => intro w' hSw; (try dsimp only at hSw); go_simp; first | done | with_reducible rfl
        try simp only [Act.put, List.getElem_toArray, List.getElem_cons_succ, List.getElem_cons_zero, List.setIfInBounds_toArray, List.set_cons_zero, List.set_cons_succ]
        refine wpAnyH_take (i := 5) (v := ?va5) rfl (by kernel_rfl) (by kernel_rfl) (by kernel_rfl) (fun _ _ _ h => h) (Or.inl ⟨by rfl, ?hya5⟩) (by assumption) ?resta5
        case hya5 => intro w' hSw; (try dsimp only at hSw); go_simp; first | done | with_reducible rfl
        try simp only [Act.put, List.getElem_toArray, List.getElem_cons_succ, List.getElem_cons_zero, List.setIfInBounds_toArray, List.set_cons_zero, List.set_cons_succ]
        refine wpAnyH_take (i := 6) (v := ?va6) rfl (by kernel_rfl) (by kernel_rfl) (by kernel_rfl) (fun _ _ _ h => h) (Or.inl ⟨by rfl, ?hya6⟩) (by assumption) ?resta6
        case hya6 => intro w' hSw; (try dsimp only at hSw); go_simp; first | done | with_reducible rfl
        try simp only [Act.put, List.getElem_toArray, List.getElem_cons_succ, List.getElem_cons_zero, List.setIfInBounds_toArray, List.set_cons_zero, List.set_cons_succ]
        refine wpAnyH_take (i := 7) (v := ?va7) rfl (by kernel_rfl) (by kernel_rfl) (by kernel_rfl) (fun _ _ _ h => h) (Or.inl ⟨by rfl, ?hya7⟩) (by assumption) ?resta7
        case hya7 => intro w' hSw; (try dsimp only at hSw); go_simp; first | done | with_reducible rfl
        try simp only [Act.put, List.getElem_toArray, List.getElem_cons_succ, List.getElem_cons_zero, List.setIfInBounds_toArray, List.set_cons_zero, List.set_cons_succ]
        refine wpAnyH_take (i := 8) (v := ?va8) rfl (by kernel_rfl) (by kernel_rfl) (by kernel_rfl) (fun _ _ _ h => h) (Or.inl ⟨by rfl, ?hya8⟩) (by assumption) ?resta8
        case hya8 => intro w' hSw; (try dsimp only at hSw); go_simp; first | done | with_reducible rfl
        try simp only [Act.put, List.getElem_toArray, List.getElem_cons_succ, List.getElem_cons_zero, List.setIfInBounds_toArray, List.set_cons_zero, List.set_cons_succ]
        refine wpAnyH_take (i := 9) (v := ?va9) rfl (by kernel_rfl) (by kernel_rfl) (by kernel_rfl) (fun _ _ _ h => h) (Or.inl ⟨by rfl, ?hya9⟩) (by assumption) ?resta9
        case hya9 => intro w' hSw; (try dsimp only at hSw); go_simp; first | done | with_reducible rfl
        try simp only [Act.put, List.getElem_toArray, List.getElem_cons_succ, List.getElem_cons_zero, List.setIfInBounds_toArray, List.set_cons_zero, List.set_cons_succ]
        refine wpAnyH_done (by kernel_rfl) ?_ _
        have hP0' := HPD.out
        have c0' := HPE.out
        gi_wp2_with (first | (refine ⟨trivial, ?_⟩; gi_at_call 142; refine (CallsIn.inRound l (callsIn_wide.2 HFL.out)).mono ?_; rintro e w2 ⟨rfl, hb2⟩; have HB2 := Go.Lib.hid (DW.trans hb2); have hP1 := HPC.out w2 HB2.out; have lP1 := hb2.size; clear hb2) | (refine ⟨trivial, ?_⟩; gi_at_call 148; refine (CallsIn.inRound l (callsIn_wide.2 (HTK.out _ HB2.out))).mono ?_; rintro e w3 ⟨rfl, O'', h3, h4⟩))
        have C3 := (Chg.of_below (O := O') HB2.out).trans h4
        obtain ⟨k1, k2⟩ := HLc.out.kept C3 B v (kv L) w1.heap.size
        refine ⟨k1, k2, ?_, ⟨O'', ?_, HC.out.trans C3⟩, ?_⟩
        · rw [HGO.out]
        · rw [HGO.out]; exact h3
        · exact C3.fr.blk (Lcr.typ HLc.out HPP.out (by decide) (by decide)) HPP.out
      · rw [if_neg h0] at hgo
        have HGO := Go.Lib.hid hgo
        clear hgo
        gi_wp2
        refine region_round (S := fun W' => W'.cell? ⟨w.heap.size, 0, none⟩ = some (P0 px) ∧ W'.cell? ⟨px, 2, none⟩ = some (.int .i64 (manyL T 0)) ∧ W'.cell? ⟨px, 5, none⟩ = some (.int .i64 s.c)) (by kernel_rfl) (by rintro ⟨a, w, h⟩; exact h) (by kernel_rfl) ⟨hP0, c2, c5⟩ (fun hHeld => ?_)
        refine wpAnyH_take (i := 0) (v := ?vb0) rfl (by kernel_rfl) (by kernel_rfl) (by kernel_rfl) (fun _ _ _ h => h) (Or.inl ⟨by rfl, ?hyb0⟩) (by assumption) ?restb0
        case hyb0 => intro w' hSw; (try dsimp only at hSw); go_simp; first | done | with_reducible rfl
        try simp only [Act.put, List.getElem_toArray, List.getElem_cons_succ, List.getElem_cons_zero, List.setIfInBounds_toArray, List.set_cons_zero, List.set_cons_succ]
        refine wpAnyH_take (i := 1) (v := ?vb1) rfl (by kernel_rfl) (by kernel_rfl) (by kernel_rfl) (fun _ _ _ h => h) (Or.inl ⟨by rfl, ?hyb1⟩) (by assumption) ?restb1
        case hyb1 => intro w' hSw; (try dsimp only at hSw); go_simp; first | done | with_reducible rfl
        try simp only [Act.put, List.getElem_toArray, List.getElem_cons_succ, List.getElem_cons_zero, List.setIfInBounds_toArray, List.set_cons_zero, List.set_cons_succ]
        refine wpAnyH_take (i := 2) (v := ?vb2) rfl (by kernel_rfl) (by kernel_rfl) (by kernel_rfl) (fun _ _ _ h => h) (Or.inl ⟨by rfl, ?hyb2⟩) (by assumption) ?restb2
        case hyb2 => intro w' hSw; (try dsimp only at hSw); go_simp; first | done | with_reducible rfl
        try simp only [Act.put, List.getElem_toArray, List.getElem_cons_succ, List.getElem_cons_zero, List.setIfInBounds_toArray, List.set_cons_zero, List.set_cons_succ]
        refine wpAnyH_take (i := 3) (v := ?vb3) rfl (by kernel_rfl) (by kernel_rfl) (by kernel_rfl) (fun _ _ _ h => h) (Or.inl ⟨by rfl, ?hyb3⟩) (by assumption) ?restb3
        case hyb3 => intro w' hSw; (try dsimp only at hSw); go_simp; first | done | with_reducible rfl
        try simp only [Act.put, List.getElem_toArray, List.getElem_cons_succ, List.getElem_cons_zero, List.setIfInBounds_toArray, List.set_cons_zero, List.set_cons_succ]
        refine wpAnyH_take (i := 4) (v := ?vb4) rfl (by kernel_rfl) (by kernel_rfl) (by kernel_rfl) (fun _ _ _ h => h) (Or.inl ⟨by rfl, ?hyb4⟩) (by assumption) ?restb4
        case hyb4 => intro w' hSw; (try dsimp only at hSw); go_simp; first | done | with_reducible rfl
        try simp only [Act.put, List.getElem_toArray, List.getElem_cons_succ, List.getElem_cons_zero, List.setIfInBounds_toArray, List.set_cons_zero, List.set_cons_succ]
        refine wpAnyH_take (i := 5) (v := ?vb5) rfl (by kernel_rfl) (by kernel_rfl) (by kernel_rfl) (fun _ _ _ h => h) (Or.inl ⟨by rfl, ?hyb5⟩) (by assumption) ?restb5
        case hyb5 => intro w' hSw; (try dsimp only at hSw); go_simp; first | done | with_reducible rfl
        try simp only [Act.put, List.getElem_toArray, List.getElem_cons_succ, List.getElem_cons_zero, List.setIfInBounds_toArray, List.set_cons_zero, List.set_cons_succ]
        refine wpAnyH_take (i := 6) (v := ?vb6) rfl (by kernel_rfl) (by kernel_rfl) (by kernel_rfl) (fun _ _ _ h => h) (Or.inl ⟨by rfl, ?hyb6⟩) (by assumption) ?restb6
        case hyb6 => intro w' hSw; (try dsimp only at hSw); go_simp; first | done | with_reducible rfl
        try simp only [Act.put, List.getElem_toArray, List.getElem_cons_succ, List.getElem_cons_zero, List.setIfInBounds_toArray, List.set_cons_zero, List.set_cons_succ]
        refine wpAnyH_take (i := 7) (v := ?vb7) rfl (by kernel_rfl) (by kernel_rfl) (by kernel_rfl) (fun _ _ _ h => h) (Or.inl ⟨by rfl, ?hyb7⟩) (by assumption) ?restb7
        case hyb7 => intro w' hSw; (try dsimp only at hSw); go_simp; first | done | with_reducible rfl
        try simp only [Act.put, List.getElem_toArray, List.getElem_cons_succ, List.getElem_cons_zero, List.setIfInBounds_toArray, List.set_cons_zero, List.set_cons_succ]
        refine wpAnyH_take (i := 8) (v := ?vb8) rfl (by kernel_rfl) (by kernel_rfl) (by kernel_rfl) (fun _ _ _ h => h) (Or.inl ⟨by rfl, ?hyb8⟩) (by assumption) ?restb8
        case hyb8 => intro w' hSw; (try dsimp only at hSw); go_simp; first | done | with_reducible rfl
        try simp only [Act.put, List.getElem_toArray, List.getElem_cons_succ, List.getElem_cons_zero, List.setIfInBounds_toArray, List.set_cons_zero, List.set_cons_succ]
        refine wpAnyH_take (i := 9) (v := ?vb9) rfl (by kernel_rfl) (by kernel_rfl) (by kernel_rfl) (fun _ _ _ h => h) (Or.inl ⟨by rfl, ?hyb9⟩) (by assumption) ?restb9
        case hyb9 => intro w' hSw; (try dsimp only at hSw); go_simp; first | done | with_reducible rfl
        try simp only [Act.put, List.getElem_toArray, List.getElem_cons_succ, List.getElem_cons_zero, List.setIfInBounds_toArray, List.set_cons_zero, List.set_cons_succ]
        refine wpAnyH_done (by kernel_rfl) ?_ _
        have hP0' := HPD.out
        have c0' := HPE.out
        gi_wp2_with (refine ⟨trivial, ?_⟩; gi_at_call 142; refine (CallsIn.inRound l (callsIn_wide.2 HFL.out)).mono ?_; rintro e w2 ⟨rfl, hb2⟩; have HB2 := Go.Lib.hid (DW.trans hb2); have hP1 := HPC.out w2 HB2.out; have lP1 := hb2.size; clear hb2)
        obtain ⟨k1, k2⟩ := HLc.out.kept (Chg.of_below HB2.out) B v (kv L) w1.heap.size
        refine ⟨k1, k2, ?_, ⟨O', ?_, HC.out.below HB2.out⟩, HPP.out.keep HB2.out⟩
        · rw [HGO.out]
        · rw [HGO.out]; exact HLc.out.keep HB2.out
  case done =>
    rintro D ys W hD rfl ⟨h1, ⟨O', hLc, hC⟩, hP⟩ hK
    gi_wp2
    refine ⟨by simp, .inl ⟨_, _, rfl, run_takeDeferred hK, ?_⟩⟩
    refine ⟨_, results_none rfl _ _ _, rfl, ?_⟩
    have hDw : w.heap.size ≤ D := Nat.le_trans hsz hD
    have q := own_lca (fun _ : Unit => ⟨s.c, forgetF s.c s.s, s.q⟩) (fun _ => p1) (fun _ => p2) hDw () W _ (some D) ⟨O', by have qq := forgetRun_all s.c hc.1 s.s [] (by simpa using nd) (by simp); rw [List.append_nil] at qq; rw [← qq, ← hL, ← kv_reverse]; exact hLc, hC⟩ (grownBy_putObj' W D (.deferred none)) (fun r e => by cases e; exact ⟨Nat.le_refl _, _, hK, rfl⟩)
    exact q
  case stop =>
    rintro D c pre W hD hpre ⟨⟨rfl, h1⟩, O', hLc, hC⟩ hK
    gi_wp2
    refine ⟨by simp, .inl ⟨_, _, rfl, run_takeDeferred hK, ?_⟩⟩
    refine ⟨_, results_none rfl _ _ _, rfl, ?_⟩
    have hDw : w.heap.size ≤ D := Nat.le_trans hsz hD
    have q := own_lca (fun _ : Unit => ⟨s.c, forgetF s.c s.s, s.q⟩) (fun _ => p1) (fun _ => p2) hDw () W _ (some D) ⟨O', by (obtain ⟨r, hr⟩ := kv_prefix hpre); have qq := forgetRun_all s.c hc.1 s.s [] (by simpa using nd) (by simp); rw [List.append_nil] at qq; rw [← qq, ← hL, ← kv_reverse, hr, forgetRun_stop h1]; exact hLc, hC⟩ (grownBy_putObj' W D (.deferred none)) (fun r e => by cases e; exact ⟨Nat.le_refl _, _, hK, rfl⟩)
    exact q
end Go.Proofs.Ytlakojncjldpbaa
