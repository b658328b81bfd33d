/- The cache of low inter-reference recency: cool. -/
import Derived.Test.YtlakojncjldpbaaLc7
namespace Go.Proofs.Ytlakojncjldpbaa
open Go.RowKit Go.Shelf Hop
set_option linter.unusedVariables false
set_option linter.unusedSimpArgs false
set_option maxRecDepth 100000
attribute [local go_sem] Oper.semAt_some
/-- Marks of loops that are over. -/
def mkD (Ds : List Nat) : List Deferred := Ds.map (fun D => { target := .collected D, args := #[] })
def marks (n0 : Nat) (W : World) (Ds : List Nat) : Prop := Ds.Nodup ∧ ∀ D ∈ Ds, n0 ≤ D ∧ W.heap[D]? = some (.deferred (some []))
theorem marks_lt {n0 : Nat} {W : World} {Ds : List Nat} (h : marks n0 W Ds) {D : Nat} (hD : D ∈ Ds) : D < W.heap.size := (Array.getElem?_eq_some_iff.1 (h.2 D hD).2).1
theorem marks_keep {n0 : Nat} {W W' : World} {Ds : List Nat} (h : marks n0 W Ds) (hh : ∀ (k : Nat) (o : Obj), W.heap[k]? = some o → o.isCells = false → k < W.heap.size → W'.heap[k]? = some o) : marks n0 W' Ds :=
  ⟨h.1, fun D hD => ⟨(h.2 D hD).1, hh _ _ (h.2 D hD).2 rfl (marks_lt h hD)⟩⟩
theorem marks_kf {n0 : Nat} {W W' : World} {Ds : List Nat} (h : marks n0 W Ds) (k : KeepsFrom n0 W W') : marks n0 W' Ds :=
  ⟨h.1, fun D hD => ⟨(h.2 D hD).1, k.same _ _ (h.2 D hD).1 (h.2 D hD).2 rfl⟩⟩
theorem own_marks {β : Type} {B n0 : Nat} {Ds : List Nat} (hlt : ∀ D ∈ Ds, D < B) : OwnFrom B (fun (_ : β) W => marks n0 W Ds) := by
  intro s W W' row h hg hr
  refine ⟨h.1, fun D hD => ⟨(h.2 D hD).1, ?_⟩⟩
  rw [hg.block D (marks_lt h hD) (fun e => ?_)]
  · exact (h.2 D hD).2
  · have := (hr D e.symm).1
    have := hlt D hD
    omega
theorem leaves_marks {n0 : Nat} {F : Fence} {n : Nat} {P : Program} {fn : Func} {tmps : Array Value} {R : Ending → World → Prop} : ∀ (Ds : List Nat) (W : World), marks n0 W Ds →
    (∀ W', Fr (fun k => n0 ≤ k ∧ ∃ o : Obj, W.heap[k]? = some o ∧ o.isCells = false) W W' → LeavesInM F n P fn tmps R [] .returning W') → LeavesInM F n P fn tmps R (mkD Ds) .returning W := by
  intro Ds
  induction Ds with
  | nil => intro W _ h; exact h W (Fr.refl _ _)
  | cons D Ds ih =>
    intro W hm h
    have hK := (hm.2 D (by simp)).2
    obtain ⟨n1, n2⟩ := List.nodup_cons.1 hm.1
    refine ⟨by simp, .inl ⟨D, W.putObj D (.deferred none), rfl, run_takeDeferred hK, ?_⟩⟩
    have hz : (W.putObj D (.deferred none)).heap.size = W.heap.size := by simp
    refine ih _ ⟨n2, fun E hE => ⟨(hm.2 E (List.mem_cons_of_mem _ hE)).1, ?_⟩⟩ (fun W' hF => h W' ?_)
    · rw [World.putObj_heap_other (fun e => n1 (by rw [← e]; exact hE))]
      exact (hm.2 E (List.mem_cons_of_mem _ hE)).2
    · have F1 : Fr (fun k => n0 ≤ k ∧ ∃ o : Obj, W.heap[k]? = some o ∧ o.isCells = false) W (W.putObj D (.deferred none)) :=
        (fr_grown (grownBy_putObj' W D (.deferred none))).mono (fun k e => by
          injection e with e
          subst e
          exact ⟨(hm.2 D (by simp)).1, _, hK, rfl⟩)
      refine F1.trans hF (fun k hk => ?_)
      obtain ⟨h1, o, h2, h3⟩ := hk
      by_cases e : D = k
      · subst e
        exact .inl ⟨h1, _, hK, rfl⟩
      · rw [World.putObj_heap_other (fun e2 => e e2.symm)] at h2
        exact .inl ⟨h1, o, h2, h3⟩
def hotAt (px : Nat) (W : World) : Nat := match W.cell? ⟨px, 4, none⟩ with
  | some (.int _ n) => n.toNat
  | _ => 0
def lastD (pre : List K64) : Int := (kv pre).getLastD 0
theorem last_prefix {S : List LI} {L pre : List K64} (nd : (keysL S).Nodup) (hL : kv L = keysL S) (hpre : pre <+: L.reverse) (hne : pre ≠ []) (h1 : kindOf S (lastD pre) = 2) (h2 : ∀ y ∈ (kv pre).dropLast, kindOf S y ≠ 2) : lastD pre = lastK S 2 := by
  obtain ⟨P, x, e⟩ : ∃ P x, kv pre = P ++ [x] := by
    rcases List.eq_nil_or_concat (kv pre) with h' | ⟨A, x, h'⟩
    · exact absurd (List.map_eq_nil_iff.1 h') hne
    · exact ⟨A, x, by rw [h', List.concat_eq_append]⟩
  have el : lastD pre = x := by unfold lastD; rw [e]; simp
  rw [el] at h1 ⊢
  rw [e] at h2
  have h2' : ∀ y ∈ P, kindOf S y ≠ 2 := by simpa using h2
  obtain ⟨r, hr⟩ := kv_prefix hpre
  rw [kv_reverse, hL, e] at hr
  have hk : keysL S = r.reverse ++ x :: P.reverse := by
    have := congrArg List.reverse hr
    simpa using this
  obtain ⟨A, T, rfl, hA, hT⟩ := List.map_eq_append_iff.1 hk
  obtain ⟨X, C, rfl, hX, hC⟩ := List.map_eq_cons_iff.1 hT
  rw [lastK_eq (x := X) (by
    rw [← kindOf_mem nd (x := X) (by simp), hX]
    exact h1) (fun y hy => by
    rw [← kindOf_mem nd (x := y) (by simp [hy])]
    refine h2' _ ?_
    have : y.key ∈ C.map LI.key := List.mem_map_of_mem hy
    rw [hC] at this
    simpa using this)]
  exact hX.symm
structure CoolI (w : World) (px : Nat) (O : Nat → Prop) (s : LS) (p1 p2 : Nat) (W : World) (s' : LS) (O' : Nat → Prop) (p2' : Nat) (Ds : List Nat) : Prop where
  l : Lca W px O' s' p1 p2'
  ch : Chg O O' w W
  bp : Blk W w.heap.size [P0 px] 83
  st : s'.st
  c : s'.c = s.c
  f : coolF s' = coolF s
  t : manyL s'.s 2 + s'.q.length = manyL s.s 2 + s.q.length
  p : p2' ≤ max p2 (manyL s.s 2 + s.q.length)
  m : marks w.heap.size W Ds
set_option maxHeartbeats 6400000 in
theorem cool_ca {px : Nat} {O : Nat → Prop} {s : LS} {p1 p2 : Nat} (w : World) (hs : s.st) (hc : 1 ≤ s.c ∧ s.c ≤ 199) (hp : p2 < 1000 ∧ manyL s.s 2 + s.q.length < 1000) (H : Lca w px O s p1 p2) :
    Calls Try.prog 146 #[P0 px] w fun e w' => e = .returned (.tuple #[]) ∧ ∃ O' p2', Lca w' px O' (coolF s) p1 p2' ∧ p2' ≤ max p2 (manyL s.s 2 + s.q.length) ∧ Chg O O' w w' := by
  have A0 : Below w.heap.size w (w.alloc (.cells #[P0 px] 83)) := (Below.refl _ _).alloc (Nat.le_refl _) _
  have I0 : CoolI w px O s p1 p2 (w.alloc (.cells #[P0 px] 83)) s O p2 [] := ⟨H.keep A0, Chg.of_below A0, Blk.new0 w [P0 px] 83, hs, rfl, rfl, rfl, by omega, by simp [marks]⟩
  have HI0 := Go.Lib.hid I0
  have HHC := Go.Lib.hid hc
  have HHP := Go.Lib.hid hp
  clear I0 A0 H hs hc hp
  refine callsIn_wide (n := 4).1 ?_
  have hro : Fence.wide.round = none := rfl
  refine callsIn_of_wp_marks Try.func146 rfl trivial ?_ hro
  simp only [Try.ntmps146, List.size_toArray, List.length_cons, List.length_nil, Nat.reduceAdd, Nat.reduceSub, Array.replicate_succ, Array.replicate_zero, List.push_toArray, List.append_toArray, List.nil_append, List.cons_append]
  gi_wp2
  refine wpIn_loop (fun a W => ∃ (s' : LS) (O' : Nat → Prop) (p2' : Nat) (Ds : List Nat) (u2 u3 u4 u5 u6 u7 u8 u9 u10 u11 u12 u13 u14 u15 u16 u17 u18 u19 u20 u21 u22 u23 u24 u25 u26 u27 u28 : Value), a = { tmps := #[P0 px, P0 w.heap.size, u2, u3, u4, u5, u6, u7, u8, u9, u10, u11, u12, u13, u14, u15, u16, u17, u18, u19, u20, u21, u22, u23, u24, u25, u26, u27, u28], defers := mkD Ds } ∧ CoolI w px O s p1 p2 W s' O' p2' Ds) (fun _ W => hotAt px W) ?start ?round
  case start => exact ⟨s, O, p2, [], _, _, _, _, _, _, _, _, _, _, _, _, _, _, _, _, _, _, _, _, _, _, _, _, _, _, _, rfl, HI0.out⟩
  case round =>
    rintro a W ⟨s', O', p2', Ds, u2, u3, u4, u5, u6, u7, u8, u9, u10, u11, u12, u13, u14, u15, u16, u17, u18, u19, u20, u21, u22, u23, u24, u25, u26, u27, u28, rfl, hI⟩
    have HI := Go.Lib.hid hI
    have hbd := hI.l.bnd
    have hcc := hI.c
    obtain ⟨ps, pq, O1, O2, hp, hO⟩ := hI.l
    have c0 := hI.bp.cell 0
    have d0 := hp.x.cell 0
    have d4 := hp.x.cell 4
    have lb := hI.bp.lt
    have lx := hp.x.lt
    simp only [List.getElem?_cons_zero, List.getElem?_cons_succ] at c0 d0 d4
    have HRM := Go.Lib.hid (room_any px _ s'.c W.drew (by rw [hcc]; exact HHC.out) hp.drew.x rfl)
    have HSS : Hid (W.drew.cell? ⟨w.heap.size, 0, none⟩ = some (P0 px) ∧ W.drew.cell? ⟨px, 4, none⟩ = some (.int .i64 (manyL s'.s 2 : Nat))) := Go.Lib.hid ⟨c0, d4⟩
    have HST : Hid (W.drew.drew.cell? ⟨w.heap.size, 0, none⟩ = some (P0 px) ∧ W.drew.drew.cell? ⟨px, 4, none⟩ = some (.int .i64 (manyL s'.s 2 : Nat))) := Go.Lib.hid ⟨c0, d4⟩
    have HHA : Hid (hotAt px W = manyL s'.s 2) := Go.Lib.hid (by unfold hotAt; rw [d4]; simp)
    obtain ⟨b0, b1⟩ := hbd.2.2
    generalize hM : (manyL s'.s 2 : Int) = M at *
    have HM := Go.Lib.hid hM
    clear hI hp hO hbd hM hcc
    gi_wp2
    refine wpIn_wide.2 ?_
    go_region_held3 (fun W' => W'.cell? ⟨w.heap.size, 0, none⟩ = some (P0 px) ∧ W'.cell? ⟨px, 4, none⟩ = some (.int .i64 M))
      (first | exact HST.out | exact HSS.out)
      (first | (go_at_call 150; refine HRM.out.mono ?_; rintro e w1 ⟨rfl, rfl⟩))
    have B1 : Below W.heap.size W W.drew.drew := (Below.refl _ _).drew.drew
    obtain ⟨W1, hW1⟩ : ∃ W1, W1 = W.drew.drew := ⟨_, rfl⟩
    rw [← hW1] at B1 ⊢
    have hkf : KeepsFrom w.heap.size W W1 := by rw [hW1]; exact ⟨Nat.le_refl _, fun _ _ _ h _ => h⟩
    have J1 : CoolI w px O s p1 p2 W1 s' O' p2' Ds := ⟨HI.out.l.keep B1, HI.out.ch.below B1, HI.out.bp.keep B1, HI.out.st, HI.out.c, HI.out.f, HI.out.t, HI.out.p, marks_kf HI.out.m hkf⟩
    have HJ := Go.Lib.hid J1
    have c0' := J1.bp.cell 0
    have lb' := J1.bp.lt
    simp only [List.getElem?_cons_zero] at c0'
    have hc1 : 1 ≤ s'.c := by rw [HI.out.c]; exact HHC.out.1
    clear hW1 J1 c0 d0 d4 lb lx HSS HST HRM B1 hkf HI
    by_cases hle : M ≤ s'.c - 1
    · have hfin : coolF s = s' := by rw [← HJ.out.f, coolF_step HJ.out.st hc1, if_pos (by rw [HM.out]; exact hle)]
      have HFIN := Go.Lib.hid hfin
      clear hfin c0'
      gi_wp2
      refine leaves_marks (n0 := w.heap.size) Ds W1 HJ.out.m (fun W' hF => ?_)
      refine ⟨_, results_none rfl _ _ _, rfl, O', p2', ?_, HJ.out.p, ⟨HJ.out.ch.fr.trans hF (fun i h => .inr h.1), HJ.out.ch.own⟩⟩
      rw [HFIN.out]
      refine HJ.out.l.frame hF (fun k hk h => ?_)
      obtain ⟨_, o, h1, h2⟩ := h
      obtain ⟨cs, T, hb⟩ := Lcr.cells HJ.out.l hk
      exact not_cells h1 h2 hb
    · have hpos : 0 < manyL s'.s 2 := by have := HM.out; omega
      obtain ⟨L, hL⟩ := k64_ex (keysL s'.s) (fun k hk => Lcr.ks HJ.out.l hk)
      have nd := Lcr.nd HJ.out.l
      have hLl : L.length < 100000 := by
        have h1 := Lcr.len HJ.out.l
        have h2 : (kv L).length = s'.s.length := by rw [hL, keysL_len]
        have h3 : (kv L).length = L.length := List.length_map _
        omega
      have HPOS := Go.Lib.hid hpos
      have HND := Go.Lib.hid nd
      have HL := Go.Lib.hid hL
      have HBK := Go.Lib.hid (backwards_ca W1 HJ.out.l)
      clear hpos nd hL
      gi_wp2_with (refine ⟨trivial, ?_⟩; gi_at_call 192; refine (callsIn_wide.2 HBK.out).mono ?_; rintro e w1 ⟨v, B, rfl, hge, hB, hv, hb⟩)
      have hbW : Below W1.heap.size W1 w1 := hb
      have hsz : W1.heap.size ≤ w1.heap.size := hb.size
      have hsw : w.heap.size ≤ w1.heap.size := Nat.le_trans HJ.out.ch.fr.size hsz
      have K1 : CoolI w px O s p1 p2 w1 s' O' p2' Ds := ⟨HJ.out.l.keep hb, HJ.out.ch.below hb, HJ.out.bp.keep hb, HJ.out.st, HJ.out.c, HJ.out.f, HJ.out.t, HJ.out.p, marks_keep HJ.out.m (fun k o h _ hk => (hb.block k hk).trans h)⟩
      have HK := Go.Lib.hid K1
      have hmlt : ∀ D ∈ Ds, D < w1.heap.size := fun D hD => marks_lt K1.m hD
      have HSEQ : SeqStopsK Fence.wide 3 Try.prog 225 #[P0 B] (fun x : K64 => #[Value.int .u64 x.1]) (Kept2 B v (kv L)) (fun ys => ys = L.reverse) (fun pre => pre <+: L.reverse) L.length w1 := by
        intro l J Jx W hW hJ hJx hY h0
        exact back1_in L W l B v hLl J Jx hJ hY (hB.keep hW) (by rw [HL.out]; exact hv.keep hW) h0
      clear K1 hB hv hb hge HBK
      refine wpIn_rangeFunc_ownG hro (by decide : 1 ≤ 4) (gf := 225) (lb := #[P0 B]) rfl trivial (enters_of Try.func225 (by kernel_rfl) rfl)
        HSEQ kept2_trans (fun W l o o' hl h hc hw => kept2_putObj W l o o' h hc) (Below.refl _ _) (fun _ => rfl)
        (fun pre W => (∀ y ∈ kv pre, kindOf s'.s y ≠ 2) ∧ (∃ O'', Lca W px O'' s' p1 p2' ∧ Chg O O'' w W) ∧ Blk W w.heap.size [P0 px] 83 ∧ marks w.heap.size W Ds)
        (fun c pre W => (c = .exit 2 ∧ pre ≠ [] ∧ kindOf s'.s (lastD pre) = 2 ∧ ∀ y ∈ (kv pre).dropLast, kindOf s'.s y ≠ 2) ∧ (∃ O'', Lca W px O'' ⟨s'.c, setL s'.s (lastD pre) 1, wo s'.q (lastD pre) ++ [lastD pre]⟩ p1 (max p2' ((wo s'.q (lastD pre)).length + 1)) ∧ Chg O O'' w W) ∧ Blk W w.heap.size [P0 px] 83 ∧ marks w.heap.size W Ds)
        (OwnFrom.and (ownFrom_pure _ _) (OwnFrom.and (own_lca (fun _ : List K64 => s') (fun _ => p1) (fun _ => p2') hsw) (OwnFrom.and (own_blk _ _ _ _) (own_marks hmlt))))
        (fun c => OwnFrom.and (ownFrom_pure _ _) (OwnFrom.and (own_lca (fun pre : List K64 => ⟨s'.c, setL s'.s (lastD pre) 1, wo s'.q (lastD pre) ++ [lastD pre]⟩) (fun _ => p1) (fun pre => max p2' ((wo s'.q (lastD pre)).length + 1)) hsw) (OwnFrom.and (own_blk _ _ _ _) (own_marks hmlt))))
        ⟨fun y hy => by simp [kv] at hy, ⟨O', HK.out.l, HK.out.ch⟩, HK.out.bp, HK.out.m⟩
        (fun x => { tmps := #[P0 px, P0 w.heap.size, .int .u64 x.1, P0 px, .pointer (some ⟨px, 0, none⟩), .pointer (some ⟨px, 2, none⟩), .pointer (some ⟨px, 4, none⟩), .int .i64 M, P0 px, .int .i64 (s'.c - 1), .bool true, P0 px, .func (.func 225) #[] #[P0 B], .int .u64 x.1, u14, u15, u16, u17, u18, u19, u20, u21, u22, u23, u24, u25, u26, u27, u28], defers := [] }) ?assign ?body ?done ?stop
      case assign =>
        intro l x W K hK
        gi_wp2
        exact hK
      case body =>
        rintro l pre x W ⟨h1, ⟨O'', hLc, hC⟩, hP, hMk⟩ hlt
        have hP0 := hP.cell 0
        have lP := hP.lt
        have hLc' := hLc
        obtain ⟨ps, pq, O1, O2, hp, hO⟩ := hLc'
        have c0 := hp.x.cell 0
        have lx := hp.x.lt
        simp only [List.getElem?_cons_zero] at hP0 c0
        have HFL := Go.Lib.hid (flag_l x.1 W x.2.1 x.2.2 hp.st)
        have HLc := Go.Lib.hid hLc
        have HC := Go.Lib.hid hC
        have HPP := Go.Lib.hid hP
        have HMk := Go.Lib.hid hMk
        have H1 := Go.Lib.hid h1
        have HPC : Hid (∀ W', Below W.heap.size W W' → W'.cell? ⟨w.heap.size, 0, none⟩ = some (P0 px)) := Go.Lib.hid (fun W' hb => by simpa using (hP.keep hb).cell 0)
        clear hp hO hLc hC hP hMk h1
        by_cases h2 : kindOf s'.s x.1 = 2
        · have hk : x.1 ∈ keysL s'.s := kindOf_ne h2 (by decide)
          have HKD := Go.Lib.hid (fun (w' : World) (hb : Below W.heap.size W w') => kind_ca21 (w := w') x.1 x.2.1 x.2.2 hk h2 (HLc.out.keep hb))
          have HBH := Go.Lib.hid (fun (w' : World) (O3 : Nat → Prop) (h : Lca w' px O3 ⟨s'.c, setL s'.s x.1 1, s'.q⟩ p1 p2') => behind_ca (w := w') x.1 x.2.1 x.2.2 (by have := HK.out.p; have := HHP.out; omega) h)
          have H2 := Go.Lib.hid h2
          have HCK : Hid (∀ (w3 : World) (O3 : Nat → Prop), Chg O'' O3 W w3 → w3.cell? ⟨w.heap.size, 0, none⟩ = some (P0 px) ∧ w.heap.size < w3.heap.size) := Go.Lib.hid (fun w3 O3 hch => by
            have q := hch.fr.blk (Lcr.typ HLc.out HPP.out (by decide) (by decide)) HPP.out
            exact ⟨by simpa using q.cell 0, q.lt⟩)
          rw [h2] at HFL
          clear h2 hk
          gi_wp2_with (first | (refine ⟨trivial, ?_⟩; gi_at_call 142; refine (CallsIn.inRound l (callsIn_wide.2 HFL.out)).mono ?_; rintro e w2 ⟨rfl, hb2⟩; have hP1 := HPC.out w2 hb2; have lP1 := hb2.size; have HB2 := Go.Lib.hid hb2; clear hb2) | (refine ⟨trivial, ?_⟩; gi_at_call 190; refine (CallsIn.inRound l (callsIn_wide.2 (HKD.out _ HB2.out))).mono ?_; rintro e w3 ⟨rfl, O3, h3, h4⟩; have C3 := (Chg.of_below (O := O'') HB2.out).trans h4; obtain ⟨hP3, lP3⟩ := HCK.out w3 O3 C3; have H3 := Go.Lib.hid h3; have HC3 := Go.Lib.hid C3; clear h3 h4 C3) | (refine ⟨trivial, ?_⟩; gi_at_call 145; refine (CallsIn.inRound l (callsIn_wide.2 (HBH.out _ _ H3.out))).mono ?_; rintro e w4 ⟨rfl, O4, h5, h6⟩; have C4 := HC3.out.trans h6))
          obtain ⟨k1, k2⟩ := HLc.out.kept C4 B v (kv L) w1.heap.size
          obtain ⟨k3, _⟩ := HLc.out.kept C4 B v (kv L) w.heap.size
          have el : lastD (pre ++ [x]) = x.1 := by unfold lastD; rw [kv_snoc]; simp
          have ed : (kv (pre ++ [x])).dropLast = kv pre := by rw [kv_snoc]; simp
          refine ⟨k1, ⟨rfl, by simp, by rw [el]; exact H2.out, by rw [ed]; exact H1.out⟩, ⟨O4, by rw [el]; exact h5, HC.out.trans C4⟩, C4.fr.blk (Lcr.typ HLc.out HPP.out (by decide) (by decide)) HPP.out, marks_kf HMk.out k3⟩
        · gi_wp2_with (refine ⟨trivial, ?_⟩; gi_at_call 142; refine (CallsIn.inRound l (callsIn_wide.2 HFL.out)).mono ?_; rintro e w2 ⟨rfl, hb2⟩; have hP1 := HPC.out w2 hb2; have lP1 := hb2.size; have HB2 := Go.Lib.hid hb2; clear hb2)
          obtain ⟨k1, k2⟩ := HLc.out.kept (Chg.of_below HB2.out) B v (kv L) w1.heap.size
          obtain ⟨k3, _⟩ := HLc.out.kept (Chg.of_below HB2.out) B v (kv L) w.heap.size
          refine ⟨k1, k2, ?_, ⟨O'', HLc.out.keep HB2.out, HC.out.below HB2.out⟩, HPP.out.keep HB2.out, marks_kf HMk.out k3⟩
          intro y hy
          rw [kv_snoc] at hy
          rcases List.mem_append.1 hy with hy | hy
          · exact H1.out y hy
          · rw [List.mem_singleton.1 hy]; exact h2
      case done =>
        rintro D ys W hD rfl ⟨h1, _⟩ hK
        exfalso
        obtain ⟨A, y, C, e, hy, _⟩ := last_split HPOS.out
        have hm : y ∈ s'.s := by rw [e]; simp
        refine h1 y.key ?_ (by rw [kindOf_mem HND.out hm]; exact hy)
        rw [kv_reverse, HL.out]
        exact List.mem_reverse.2 (mem_keysL.2 ⟨y, hm, rfl⟩)
      case stop =>
        rintro D c pre W hD hpre ⟨⟨rfl, hne, h1, h2⟩, ⟨O'', hLc, hC⟩, hP, hMk⟩ hK
        dsimp only
        rw [last_prefix HND.out HL.out hpre hne h1 h2] at hLc h1
        obtain ⟨CD, _, hwo⟩ := HK.out.st.cooled HPOS.out
        have hst2 := HK.out.st.setCold h1
        rw [hwo] at hLc
        have hP0 := hP.cell 0
        have lP := hP.lt
        simp only [List.getElem?_cons_zero] at hP0
        have hc1e : pruneS ⟨s'.c, setL s'.s (lastK s'.s 2) 1, s'.q ++ [lastK s'.s 2]⟩ = cool1 s' := by unfold pruneS cool1; rw [hwo]
        have hPR := prune_ca W hst2.ks hLc
        rw [hc1e] at hPR
        have HPR := Go.Lib.hid hPR
        have HC := Go.Lib.hid hC
        have HP := Go.Lib.hid hP
        have HLc := Go.Lib.hid hLc
        have hDn : D ∉ Ds := fun h => by have := hmlt D h; omega
        have HMK : Hid (marks w.heap.size W (D :: Ds)) := Go.Lib.hid ⟨List.nodup_cons.2 ⟨hDn, hMk.1⟩, fun E hE => by
          rcases List.mem_cons.1 hE with rfl | hE
          · exact ⟨Nat.le_trans hsw hD, hK⟩
          · exact hMk.2 E hE⟩
        have HCD := Go.Lib.hid CD
        have HWO := Go.Lib.hid hwo
        clear hPR hC hP hLc hMk hK h1 h2 hne hc1e CD hwo hst2 hDn hmlt HSEQ hD
        gi_wp2_with (refine ⟨trivial, ?_⟩; gi_at_call 147; refine (callsIn_wide.2 HPR.out).mono ?_; rintro e w5 ⟨rfl, O5, h5, h6⟩)
        obtain ⟨k3, _⟩ := HLc.out.kept h6 B v (kv L) w.heap.size
        have hh5 : hotAt px w5 = manyL (cool1 s').s 2 := by
          obtain ⟨ps, pq, O1, O2, hp, _⟩ := h5
          have d4 := hp.x.cell 4
          simp only [List.getElem?_cons_zero, List.getElem?_cons_succ] at d4
          unfold hotAt
          rw [d4]
          simp
        have hm2 := HCD.out.m2
        have hql := HCD.out.q
        have htt := HK.out.t
        have hpp := HK.out.p
        refine ⟨⟨cool1 s', O5, _, D :: Ds, _, _, _, _, _, _, _, _, _, _, _, _, _, _, _, _, _, _, _, _, _, _, _, _, _, _, _, rfl, ⟨h5, HC.out.trans h6, h6.fr.blk (Lcr.typ HLc.out HP.out (by decide) (by decide)) HP.out, HCD.out.st, HCD.out.c.trans HK.out.c, ?_, ?_, ?_, marks_kf HMK.out k3⟩⟩, ?_⟩
        · rw [← HK.out.f, coolF_step HK.out.st hc1, if_neg (by rw [HM.out]; omega)]
        · omega
        · omega
        · rw [hh5, HHA.out]; omega
end Go.Proofs.Ytlakojncjldpbaa
