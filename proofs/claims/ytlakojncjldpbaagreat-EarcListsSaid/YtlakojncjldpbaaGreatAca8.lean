/- The adaptive cache over a store: Resize. -/
import Derived.Test.YtlakojncjldpbaaGreatAca6
import Derived.Test.YtlakojncjldpbaaGreatGApp
import Derived.Test.YtlakojncjldpbaaGreatTwo
namespace Go.Proofs.YtlakojncjldpbaaGreat
open Go.RowKit Hop
set_option linter.unusedVariables false
set_option linter.unusedSimpArgs false
set_option maxRecDepth 100000
theorem shrA_end (f : Nat) (s : AS) (h : (s.t.length : Int) + s.u.length ≤ s.c) : shrA f s = (s, []) := by
  cases f with
  | zero => rfl
  | succ f => unfold shrA; rw [if_pos h]
theorem shrA_go (f : Nat) (s : AS) (h : ¬ (s.t.length : Int) + s.u.length ≤ s.c) : shrA (f + 1) s = ((shrA f (evictA s (manyA s)).1).1, (evictA s (manyA s)).2 ++ (shrA f (evictA s (manyA s)).1).2) := by
  conv => lhs; unfold shrA
  rw [if_neg h]
section
variable {O : Nat → Prop} {p : Nat}
set_option maxHeartbeats 12800000 in
theorem aresize_any (px : Nat) (s : AS) (n : Int) (w : World) (hp0 : 0 ≤ s.p ∧ s.p ≤ 1048576) (H : Aca w px O s p) :
    Calls Tryz.prog 72 #[P0 px, .int .i64 n] w fun e w' => ∃ vo O', e = .returned vo ∧ KL w' vo (resizeA s n).2 ∧ Aca w' px O' (resizeA s n).1 p ∧ Chg O O' w w' := by
  obtain ⟨hp0, hp1⟩ := hp0
  obtain ⟨hc1, hc2⟩ := capF_in n
  have HT : Hid (resizeA s n = (cutE (cutD (cutB (shrA (s.t.length + s.u.length) ⟨capF n, min s.p (capF n), s.t, s.u, s.b, s.d⟩).1)), (shrA (s.t.length + s.u.length) ⟨capF n, min s.p (capF n), s.t, s.u, s.b, s.d⟩).2)) := Go.Lib.hid rfl
  have HLN := Go.Lib.hid (fun w => arnew_any n w)
  generalize capF n = cf at *
  obtain ⟨ps, O1, hx, hs, hn, rfl⟩ := H
  have hlen := len_four hs.qok
  have f0 := arS_c
  have HX := Go.Lib.hid hx
  have HS := Go.Lib.hid hs
  have HN := Go.Lib.hid hn
  have hxl := hx.lt
  clear hx hs hn
  go_enter Tryz.func72, Tryz.ntmps72
  go_wp2_with fail
  refine (HLN.out _).mono ?_
  rintro e w1 ⟨rfl, hb⟩
  have hx1 := HX.out.keep hb
  have c0 := hx1.cell 0
  have c1 := hx1.cell 1
  have c2 := hx1.cell 2
  have f1 := hx1.frozen 1
  have f2 := hx1.frozen 2
  simp only [List.getElem?_cons_zero, List.getElem?_cons_succ] at c0 c1 c2
  have hxl1 := hx1.lt
  have HB1 := Go.Lib.hid hb
  have HX1 := Go.Lib.hid hx1
  clear hb hx1
  go_wp2_with fail
  go_region
  obtain ⟨X, hX⟩ : ∃ X, X = (if cf < s.p then cf else s.p) := ⟨_, rfl⟩
  rw [← hX]
  have hXm : min s.p cf = X := by rw [hX]; split <;> omega
  rw [hXm] at HT
  have hX0 : 0 ≤ X := by omega
  have hX1 : X ≤ 1048576 := by omega
  obtain ⟨V, hV⟩ : ∃ V, V = ((w1.setCell ⟨px, 1, none⟩ (.int .i64 cf)).setCell ⟨px, 2, none⟩ (.int .i64 X)).drew := ⟨_, rfl⟩
  rw [← hV]
  have FV : Fr (fun k => k = px) w1 (((w1.setCell ⟨px, 1, none⟩ (.int .i64 cf)).setCell ⟨px, 2, none⟩ (.int .i64 X))) := ((Fr.refl (fun k => k = px) w1).setEq rfl _).setEq rfl _
  have XV : Blk V px [P0 ps, .int .i64 cf, .int .i64 X] 96 := by rw [hV]; exact (HX1.out.set 1 (.int .i64 cf)).set 2 (.int .i64 X)
  have SV : Sta V ps O1 (qN (lsA s)) p := by
    rw [hV]
    exact ((HS.out.keep HB1.out).frame FV (fun k hk e => HN.out (e ▸ hk))).keep (Below.refl _ _).drew
  have CV : Chg (fun k => k = px ∨ O1 k) (fun k => k = px ∨ O1 k) w V := by
    rw [hV]
    exact ((Chg.of_below HB1.out).trans ⟨FV.mono (fun k h => .inl h), fun k hk => .inl hk⟩).below (Below.refl _ _).drew
  obtain ⟨g0, hg0⟩ : ∃ g0, g0 = s.t.length + s.u.length := ⟨_, rfl⟩
  obtain ⟨R, hR⟩ : ∃ R, R = shrA g0 ⟨cf, X, s.t, s.u, s.b, s.d⟩ := ⟨_, rfl⟩
  rw [← hg0, ← hR] at HT
  have HRR : Hid (shrA g0 ⟨cf, X, s.t, s.u, s.b, s.d⟩ = (R.1, R.2)) := Go.Lib.hid hR.symm
  have HXV := Go.Lib.hid XV
  have HSV := Go.Lib.hid SV
  have HCV := Go.Lib.hid CV
  have HG0 := Go.Lib.hid hg0
  have hgl0 : g0 < 50000 := by omega
  have lxV := XV.lt
  clear hX hXm hV FV XV SV CV hR hg0 c0 c1 c2 f1 f2 hlen hp0 hp1
  go_wp2_with fail
  go_loopg [5] g0 (fun g vo wr => ∃ (s1 : AS) (gone G2 : List Int) (O' : Nat → Prop), s1.c = cf ∧ s1.p = X ∧ s1.t.length + s1.u.length = g ∧ gone.length + g ≤ g0 ∧ shrA g s1 = (R.1, G2) ∧ gone ++ G2 = R.2 ∧ KL wr vo gone ∧ (∀ b, vo.ownBlock = some b → V.heap.size ≤ b) ∧ Sta wr ps O' (qN (lsA s1)) p ∧ Chg O1 O' V wr)
  case atStart => exact ⟨⟨cf, X, s.t, s.u, s.b, s.d⟩, [], R.2, O1, rfl, rfl, HG0.out.symm, by simp, HRR.out, rfl, KL.nil _, fun b hb => (by cases hb), HSV.out, Chg.refl _ _⟩
  case round =>
    clear HRR HG0
    obtain ⟨s1, gone, G2, O', hsc, hsp, hg, hgl, hsh, hgo, hko, hoo, hst, hch⟩ := hrel
    have hxw := hch.blk HN.out HXV.out
    have hno := hch.not lxV HN.out
    have RD6 : ∃ V, V = (wr.alloc (.cells #[.int .i64 0, .int .i64 1] 3)).drew ∧ Below wr.heap.size wr V ∧ Blk V px [P0 ps, .int .i64 cf, .int .i64 X] 96 ∧ Sta V ps O' (qN (lsA s1)) p ∧ Calls Tryz.prog 74 #[P0 px, .slice (some ⟨wr.heap.size, 0, none⟩) 2 2] V fun e w' => e = .returned (.int .i64 (s1.t.length + s1.u.length : Nat)) ∧ V = w' := many_at px cf X 0 1 (by simp [lsA]) (by simp [lsA]) wr hxw hst
    rw [hg] at RD6
    obtain ⟨V6, hV6, BV6, xV6, sV6, mV6⟩ := RD6
    have HV6 := Go.Lib.hid hV6
    have HBV6 := Go.Lib.hid BV6
    have HX6 := Go.Lib.hid xV6
    have HS6 := Go.Lib.hid sV6
    have HM6 := Go.Lib.hid mV6
    have lV6 := xV6.lt
    have HC6 : Hid (V6.cell? ⟨px, 1, none⟩ = some (.int .i64 cf)) := Go.Lib.hid (xV6.cell 1)
    have HK6 : Hid ((wr.alloc (.cells #[.int .i64 0, .int .i64 1] 3)).drew.cell? ⟨px, 1, none⟩ = some (.int .i64 cf)) := Go.Lib.hid (by rw [← hV6]; exact HC6.out)
    have HD6 : Hid (wr.drew.cell? ⟨px, 1, none⟩ = some (.int .i64 cf)) := Go.Lib.hid (hxw.cell 1)
    have lx6 := hxw.lt
    clear hV6 BV6 xV6 sV6 mV6
    have HNO := Go.Lib.hid hno
    have HKO := Go.Lib.hid hko
    have HOO := Go.Lib.hid hoo
    have HCH := Go.Lib.hid hch
    have HG := Go.Lib.hid hg
    have HGL := Go.Lib.hid hgl
    have HSH := Go.Lib.hid hsh
    have HGO := Go.Lib.hid hgo
    have HSC := Go.Lib.hid (⟨hsc, hsp⟩ : s1.c = cf ∧ s1.p = X)
    have hgk : gk < 50000 := by omega
    clear hno hko hoo hch hg hgl hsh hgo hsc hsp hst hxw
    go_wp2_with fail
    go_region_held3 (fun W' => W'.cell? ⟨px, 1, none⟩ = some (.int .i64 cf))
      (first | exact HK6.out | exact HC6.out | exact HD6.out)
      (first | (go_at_call 74; rw [← HV6.out]; refine HM6.out.mono ?_; rintro e w9 ⟨rfl, rfl⟩))
    by_cases hlt : cf < (gk : Int)
    · obtain ⟨j, rfl⟩ : ∃ j, gk = j + 1 := ⟨gk - 1, by omega⟩
      have hev : evok s1 (manyA s1) := evok_many (by rw [HSC.out.1]; exact hc1) (by rw [HSC.out.2]; exact hX0) (by rw [HSC.out.1]; have := HG.out; omega)
      have hsh := HSH.out
      rw [shrA_go j s1 (by rw [HSC.out.1]; have := HG.out; omega)] at hsh
      injection hsh with e1 e2
      obtain ⟨l1, l2, l3, l4, l5⟩ := evictA_len s1 (manyA s1) hev
      have hx7 := HX6.out.keep (Below.refl V6.heap.size V6).drew
      have hs7 := HS6.out.keep (Below.refl V6.heap.size V6).drew
      have HLI : Hid (∀ t : Int, (t = 0 ∨ t = 1) → Calls Tryz.prog 112 #[P0 ps, .int .i64 t] V6.drew fun e w' => e = .returned (.int .i64 (if t = 0 then s1.t.length else s1.u.length : Nat)) ∧ V6.drew = w') := Go.Lib.hid (fun t ht => by
        rcases ht with rfl | rfl
        · exact len_k 0 V6.drew (by simp [lsA]) hs7
        · exact len_k 1 V6.drew (by simp [lsA]) hs7)
      have HDM : Hid (∀ F, F = manyA s1 → Calls Tryz.prog 124 #[P0 px, .bool F] V6.drew fun e w' => ∃ k, e = .returned (.int .u64 k) ∧ (evictA s1 (manyA s1)).2 = [k] ∧ ∃ O2, Sta w' ps O2 (qN (lsA (evictA s1 (manyA s1)).1)) p ∧ Chg O' O2 V6.drew w') := Go.Lib.hid (fun F hF => by
        rw [hF]; exact ademote_any px cf X s1 (manyA s1) V6.drew hev hx7 HNO.out hs7)
      have HS70 : Hid (V6.drew.cell? ⟨px, 0, none⟩ = some (P0 ps) ∧ V6.drew.cell? ⟨px, 2, none⟩ = some (.int .i64 X)) := Go.Lib.hid ⟨hx7.cell 0, hx7.cell 2⟩
      have HX7 := Go.Lib.hid hx7
      have HK7 := Go.Lib.hid ((HKO.out.keep HBV6.out).keep (Below.refl V6.heap.size V6).drew)
      have HB7 : Hid (Below wr.heap.size wr V6.drew) := Go.Lib.hid (HBV6.out.trans ((Below.refl V6.heap.size V6).drew.mono HBV6.out.size))
      have HS7 := Go.Lib.hid hs7
      have hM1 : gone.length + 1 ≤ maxLen := by have := HGL.out; unfold maxLen; omega
      have hM2 : (gone.length + 1) * 8 ≤ 140737488355328 := by have := HGL.out; omega
      have HM1 := Go.Lib.hid hM1
      have HM2 := Go.Lib.hid hM2
      have HE1 := Go.Lib.hid e1
      have HE2 := Go.Lib.hid e2
      have HLN1 : Hid ((evictA s1 (manyA s1)).1.c = cf ∧ (evictA s1 (manyA s1)).1.p = X ∧ (evictA s1 (manyA s1)).1.t.length + (evictA s1 (manyA s1)).1.u.length = j) := Go.Lib.hid ⟨by rw [l1]; exact HSC.out.1, by rw [l2]; exact HSC.out.2, by have := HG.out; omega⟩
      have HMA : Hid (manyA s1 = (decide (X < (s1.t.length : Int)) || decide (s1.u.length = 0))) := Go.Lib.hid (by rw [← HSC.out.2]; rfl)
      have hl1 : s1.t.length < 100000 := by have := HG.out; omega
      have hl2 : s1.u.length < 100000 := by have := HG.out; omega
      clear hev l1 l2 l3 l4 l5 hx7 hs7 hM1 hM2 e1 e2
      generalize manyA s1 = F at *
      generalize s1.t.length = n1 at *
      generalize s1.u.length = n2 at *
      generalize evictA s1 F = E at *
      have hFq : X < (n1 : Int) ∨ ¬ X < (n1 : Int) := by omega
      rcases hFq with hq | hq
      · have hFt : true = F := by rw [HMA.out, decide_eq_true hq]; rfl
        have hg1 : decide (X < (n1 : Int)) = true := decide_eq_true hq
        have hFq := hFt
        have HFT := Go.Lib.hid hFt
        have HFQ := Go.Lib.hid hFq
        clear hFt hFq
        go_wp2_with fail
        refine wp_region_held_drew (S := fun W' => W'.cell? ⟨px, 0, none⟩ = some (P0 ps) ∧ W'.cell? ⟨px, 2, none⟩ = some (.int .i64 X)) (by kernel_rfl) HS70.out (fun hHeld => ?_)
        refine wpAnyH_take (i := 0) (v := ?v0) rfl (by kernel_rfl) (by kernel_rfl) (by kernel_rfl) (fun _ _ _ h => h) (Or.inl ⟨by rfl, ?hy0⟩) (by assumption) ?rest0
        case hy0 => intro w' hSw; (try dsimp only at hSw); go_simp; first | done | with_reducible rfl
        try simp only [Act.put, List.getElem_toArray, List.getElem_cons_succ, List.getElem_cons_zero, List.setIfInBounds_toArray, List.set_cons_zero, List.set_cons_succ]
        refine wpAnyH_take (i := 1) (v := ?v1) rfl (by kernel_rfl) (by kernel_rfl) (by kernel_rfl) (fun _ _ _ h => h) (Or.inl ⟨by rfl, ?hy1⟩) (by assumption) ?rest1
        case hy1 => intro w' hSw; (try dsimp only at hSw); go_simp; first | done | with_reducible rfl
        try simp only [Act.put, List.getElem_toArray, List.getElem_cons_succ, List.getElem_cons_zero, List.setIfInBounds_toArray, List.set_cons_zero, List.set_cons_succ]
        refine wpAnyH_take (i := 2) (v := ?v2) rfl (by kernel_rfl) (by kernel_rfl) (by kernel_rfl) (fun _ _ _ h => h) (Or.inl ⟨by rfl, ?hy2⟩) (by assumption) ?rest2
        case hy2 => intro w' hSw; (try dsimp only at hSw); go_simp; first | done | with_reducible rfl
        try simp only [Act.put, List.getElem_toArray, List.getElem_cons_succ, List.getElem_cons_zero, List.setIfInBounds_toArray, List.set_cons_zero, List.set_cons_succ]
        refine wpAnyH_take (i := 3) (v := ?v3) rfl (by kernel_rfl) (by kernel_rfl) (by kernel_rfl) (fun _ _ _ h => h) (Or.inl ⟨by rfl, ?hy3⟩) (by assumption) ?rest3
        case hy3 => intro w' hSw; (try dsimp only at hSw); go_simp; first | done | with_reducible rfl
        try simp only [Act.put, List.getElem_toArray, List.getElem_cons_succ, List.getElem_cons_zero, List.setIfInBounds_toArray, List.set_cons_zero, List.set_cons_succ]
        refine wpAnyH_take (i := 4) (v := ?v4) rfl (by kernel_rfl) (by kernel_rfl) (by kernel_rfl) (fun _ _ _ h => h) (Or.inl ⟨by rfl, ?hy4⟩) (by assumption) ?rest4
        case hy4 => intro w' hSw; (try dsimp only at hSw); go_simp; first | done | with_reducible rfl
        try simp only [Act.put, List.getElem_toArray, List.getElem_cons_succ, List.getElem_cons_zero, List.setIfInBounds_toArray, List.set_cons_zero, List.set_cons_succ]
        refine wpAnyH_take (i := 5) (v := ?v5) rfl (by kernel_rfl) (by kernel_rfl) (by kernel_rfl) (fun _ _ _ h => h) (Or.inl ⟨by rfl, ?hy5⟩) (by assumption) ?rest5
        case hy5 => intro w' hSw; (try dsimp only at hSw); go_simp; first | done | with_reducible rfl
        try simp only [Act.put, List.getElem_toArray, List.getElem_cons_succ, List.getElem_cons_zero, List.setIfInBounds_toArray, List.set_cons_zero, List.set_cons_succ]
        refine wpAnyH_take (i := 7) (v := ?v7) rfl (by kernel_rfl) (by kernel_rfl) (by kernel_rfl) (fun _ _ _ h => h) (Or.inl ⟨by rfl, ?hy7⟩) (by assumption) ?rest7
        case hy7 => intro w' hSw; (try dsimp only at hSw); go_simp; first | done | with_reducible rfl
        try simp only [Act.put, List.getElem_toArray, List.getElem_cons_succ, List.getElem_cons_zero, List.setIfInBounds_toArray, List.set_cons_zero, List.set_cons_succ]
        refine wpAnyH_take (i := 8) (v := ?v8) rfl (by kernel_rfl) (by kernel_rfl) (by kernel_rfl) (fun _ _ _ h => h) (Or.inl ⟨by rfl, ?hy8⟩) (by assumption) ?rest8
        case hy8 => intro w' hSw; (try dsimp only at hSw); go_simp; first | done | with_reducible rfl
        try simp only [Act.put, List.getElem_toArray, List.getElem_cons_succ, List.getElem_cons_zero, List.setIfInBounds_toArray, List.set_cons_zero, List.set_cons_succ]
        refine wpAnyH_take (i := 9) (v := ?v9) rfl (by kernel_rfl) (by kernel_rfl) (by kernel_rfl) (fun _ _ _ h => h) (Or.inl ⟨by rfl, ?hy9⟩) (by assumption) ?rest9
        case hy9 => intro w' hSw; (try dsimp only at hSw); go_simp; first | done | with_reducible rfl
        try simp only [Act.put, List.getElem_toArray, List.getElem_cons_succ, List.getElem_cons_zero, List.setIfInBounds_toArray, List.set_cons_zero, List.set_cons_succ]
        refine wpAnyH_take (i := 10) (v := ?v10) rfl (by kernel_rfl) (by kernel_rfl) (by kernel_rfl) (fun _ _ _ h => h) (Or.inl ⟨by rfl, ?hy10⟩) (by assumption) ?rest10
        case hy10 => intro w' hSw; (try dsimp only at hSw); go_simp; first | done | with_reducible rfl
        try simp only [Act.put, List.getElem_toArray, List.getElem_cons_succ, List.getElem_cons_zero, List.setIfInBounds_toArray, List.set_cons_zero, List.set_cons_succ]
        refine wpAnyH_ready (rs := [6]) (by kernel_rfl) (by simp) ?_
        refine AllReadyH.cons rfl (fun K hK => ?_) AllReadyH.nil
        go_simp
        refine (HLI.out _ (by first | exact .inl rfl | exact .inr rfl)).mono ?_
        rintro e w9 ⟨rfl, rfl⟩
        go_wp2_with fail
        refine hK.out _ _ HS70.out (fun hHeld => ?_)
        clear hK K
        try simp only [Act.put, List.getElem_toArray, List.getElem_cons_succ, List.getElem_cons_zero, List.setIfInBounds_toArray, List.set_cons_zero, List.set_cons_succ]
        refine wpAnyH_take (i := 11) (v := ?v11) rfl (by kernel_rfl) (by kernel_rfl) (by kernel_rfl) (fun _ _ _ h => h) (Or.inl ⟨by rfl, ?hy11⟩) (by assumption) ?rest11
        case hy11 => intro w' hSw; (try dsimp only at hSw); go_simp; first | done | with_reducible rfl
        try simp only [Act.put, List.getElem_toArray, List.getElem_cons_succ, List.getElem_cons_zero, List.setIfInBounds_toArray, List.set_cons_zero, List.set_cons_succ]
        refine wpAnyH_take (i := 12) (v := ?v12) rfl (by kernel_rfl) (by kernel_rfl) (by kernel_rfl) (fun _ _ _ h => h) (Or.inl ⟨by rfl, ?hy12⟩) (by assumption) ?rest12
        case hy12 => intro w' hSw; (try dsimp only at hSw); go_simp; first | done | with_reducible rfl
        try simp only [Act.put, List.getElem_toArray, List.getElem_cons_succ, List.getElem_cons_zero, List.setIfInBounds_toArray, List.set_cons_zero, List.set_cons_succ]
        refine wpAnyH_take (i := 13) (v := undef) rfl (by kernel_rfl) (by kernel_rfl) (by kernel_rfl) (fun _ _ _ h => h) (Or.inr ⟨by rfl, rfl⟩) (by assumption) ?_
        try simp only [Act.put, List.getElem_toArray, List.getElem_cons_succ, List.getElem_cons_zero, List.setIfInBounds_toArray, List.set_cons_zero, List.set_cons_succ]
        refine wpAnyH_take (i := 14) (v := undef) rfl (by kernel_rfl) (by kernel_rfl) (by kernel_rfl) (fun _ _ _ h => h) (Or.inr ⟨by rfl, rfl⟩) (by assumption) ?_
        try simp only [Act.put, List.getElem_toArray, List.getElem_cons_succ, List.getElem_cons_zero, List.setIfInBounds_toArray, List.set_cons_zero, List.set_cons_succ]
        refine wpAnyH_take (i := 15) (v := undef) rfl (by kernel_rfl) (by kernel_rfl) (by kernel_rfl) (fun _ _ _ h => h) (Or.inr ⟨by rfl, rfl⟩) (by assumption) ?_
        try simp only [Act.put, List.getElem_toArray, List.getElem_cons_succ, List.getElem_cons_zero, List.setIfInBounds_toArray, List.set_cons_zero, List.set_cons_succ]
        refine wpAnyH_take (i := 16) (v := undef) rfl (by kernel_rfl) (by kernel_rfl) (by kernel_rfl) (fun _ _ _ h => h) (Or.inr ⟨by rfl, rfl⟩) (by assumption) ?_
        try simp only [Act.put, List.getElem_toArray, List.getElem_cons_succ, List.getElem_cons_zero, List.setIfInBounds_toArray, List.set_cons_zero, List.set_cons_succ]
        refine wpAnyH_take (i := 17) (v := undef) rfl (by kernel_rfl) (by kernel_rfl) (by kernel_rfl) (fun _ _ _ h => h) (Or.inr ⟨by rfl, rfl⟩) (by assumption) ?_
        try simp only [Act.put, List.getElem_toArray, List.getElem_cons_succ, List.getElem_cons_zero, List.setIfInBounds_toArray, List.set_cons_zero, List.set_cons_succ]
        refine wpAnyH_take (i := 18) (v := undef) rfl (by kernel_rfl) (by kernel_rfl) (by kernel_rfl) (fun _ _ _ h => h) (Or.inr ⟨by rfl, rfl⟩) (by assumption) ?_
        try simp only [Act.put, List.getElem_toArray, List.getElem_cons_succ, List.getElem_cons_zero, List.setIfInBounds_toArray, List.set_cons_zero, List.set_cons_succ]
        refine wpAnyH_take (i := 19) (v := ?v19) rfl (by kernel_rfl) (by kernel_rfl) (by kernel_rfl) (fun _ _ _ h => h) (Or.inl ⟨by rfl, ?hy19⟩) (by assumption) ?rest19
        case hy19 => intro w' hSw; (try dsimp only at hSw); go_simp; first | done | with_reducible rfl
        try simp only [Act.put, List.getElem_toArray, List.getElem_cons_succ, List.getElem_cons_zero, List.setIfInBounds_toArray, List.set_cons_zero, List.set_cons_succ]
        refine wpAnyH_ready (rs := [20]) (by kernel_rfl) (by simp) ?_
        refine AllReadyH.cons rfl (fun K hK => ?_) AllReadyH.nil
        go_simp
        refine (HDM.out _ (by first | exact HFT.out | exact HFQ.out)).mono ?_
        rintro e w7 ⟨k, rfl, hk, O2, hs7, hc7⟩
        have x7 := hc7.blk HNO.out HX7.out
        have s7 : w7.cell? ⟨px, 0, none⟩ = some (P0 ps) ∧ w7.cell? ⟨px, 2, none⟩ = some (.int .i64 X) := ⟨x7.cell 0, x7.cell 2⟩
        have A8 := (Below.refl w7.heap.size w7).alloc (Nat.le_refl _) (.cells #[.int .u64 k] 32)
        have k8 : KL (w7.alloc (.cells #[.int .u64 k] 32)) u5 gone := (Row.frame HK7.out hc7.fr (HS7.out.kl HK7.out) : KL w7 u5 gone).keep A8
        have x8 := x7.keep A8
        have s8 : (w7.alloc (.cells #[.int .u64 k] 32)).cell? ⟨px, 0, none⟩ = some (P0 ps) ∧ (w7.alloc (.cells #[.int .u64 k] 32)).cell? ⟨px, 2, none⟩ = some (.int .i64 X) := ⟨x8.cell 0, x8.cell 2⟩
        have q8 := hs7.keep A8
        go_wp2_with fail
        refine hK.out _ _ s7 (fun hHeld => ?_)
        clear hK K
        try simp only [Act.put, List.getElem_toArray, List.getElem_cons_succ, List.getElem_cons_zero, List.setIfInBounds_toArray, List.set_cons_zero, List.set_cons_succ]
        refine wpAnyH_ready (rs := [21]) (by kernel_rfl) (by simp) ?_
        refine AllReadyH.cons rfl (fun K hK => ?_) AllReadyH.nil
        go_simp
        refine hK.out _ _ s8 (fun hHeld => ?_)
        clear hK K
        try simp only [Act.put, List.getElem_toArray, List.getElem_cons_succ, List.getElem_cons_zero, List.setIfInBounds_toArray, List.set_cons_zero, List.set_cons_succ]
        refine wpAnyH_ready (rs := [22]) (by kernel_rfl) (by simp) ?_
        refine AllReadyH.cons rfl (fun K hK => ?_) AllReadyH.nil
        refine step_append_rows rfl (.tmp 36) (.tmp 57) 27 rfl 32 (.int .u64 0) 1 8 Tryz.underlying27 u64_info rfl (by decide) u5 gone.length (gone.map (Value.int .u64)) rfl k8 (.slice (some ⟨w7.heap.size, 0, none⟩) 1 1) 1 [.int .u64 k] rfl (KL.lit w7 k) (keys_one [k]) HM1.out HM2.out ?_
        intro y9 w9 r1 r2 r3
        have x9 := r2.blk (fun hb => KL.ne k8 x8 (by decide) _ hb rfl) x8
        have s9 : w9.cell? ⟨px, 0, none⟩ = some (P0 ps) ∧ w9.cell? ⟨px, 2, none⟩ = some (.int .i64 X) := ⟨x9.cell 0, x9.cell 2⟩
        refine hK.out _ _ s9 (fun hHeld => ?_)
        clear hK K
        try simp only [Act.put, List.getElem_toArray, List.getElem_cons_succ, List.getElem_cons_zero, List.setIfInBounds_toArray, List.set_cons_zero, List.set_cons_succ]
        refine wpAnyH_take (i := 23) (v := ?v23) rfl (by kernel_rfl) (by kernel_rfl) (by kernel_rfl) (fun _ _ _ h => h) (Or.inl ⟨by rfl, ?hy23⟩) (by assumption) ?rest23
        case hy23 => intro w' hSw; (try dsimp only at hSw); go_simp; first | done | with_reducible rfl
        try simp only [Act.put, List.getElem_toArray, List.getElem_cons_succ, List.getElem_cons_zero, List.setIfInBounds_toArray, List.set_cons_zero, List.set_cons_succ]
        refine wpAnyH_done (by kernel_rfl) ?_ _
        have K9 : KL w9 y9 (gone ++ [k]) := by
          unfold KL
          rw [List.map_append, List.length_append]
          exact r1
        have S9 := q8.frame r2 (fun b hb hv => q8.kl k8 b hv hb)
        have C8 : Chg O1 O2 V (w7.alloc (.cells #[.int .u64 k] 32)) := ((HCH.out.below HB7.out).trans hc7).below A8
        have C9 : Chg O1 O2 V w9 := ⟨C8.fr.trans r2 (fun b hb => .inr (HOO.out b hb)), C8.own⟩
        have O9 : ∀ b, y9.ownBlock = some b → V.heap.size ≤ b := fun b hb => (r3 b hb).elim (HOO.out b) (fun h => Nat.le_trans C8.fr.size h)
        have HK9 := Go.Lib.hid K9
        have HS9 := Go.Lib.hid S9
        have HC9 := Go.Lib.hid C9
        have HO9 := Go.Lib.hid O9
        have HG2 : Hid (gone ++ [k] ++ (shrA j E.1).2 = R.2) := Go.Lib.hid (by rw [← HGO.out, ← HE2.out, hk, List.append_assoc])
        clear K9 S9 C8 C9 O9 r1 r2 r3 x9 s9 q8 s8 x8 k8 A8 s7 x7 hc7 hs7 hk hg1
        go_wp2_with fail
        go_roundg j
        case rel => exact ⟨E.1, gone ++ [k], (shrA j E.1).2, O2, HLN1.out.1, HLN1.out.2.1, HLN1.out.2.2, by have := HGL.out; simp; omega, by rw [← HE1.out], HG2.out, HK9.out, HO9.out, HS9.out, HC9.out⟩
        case measure => omega
      · have hFq : ((n2 : Int) == 0) = F := by
          rw [HMA.out, decide_eq_false hq, Bool.false_or]
          by_cases h0 : n2 = 0 <;> simp [h0]
        have hg1 : decide (X < (n1 : Int)) = false := decide_eq_false hq
        have hFt := hFq
        have HFT := Go.Lib.hid hFt
        have HFQ := Go.Lib.hid hFq
        clear hFt hFq
        go_wp2_with fail
        first
        | (go_region_held3 (fun W' => W'.cell? ⟨px, 0, none⟩ = some (P0 ps) ∧ W'.cell? ⟨px, 2, none⟩ = some (.int .i64 X))
            (first | exact s9 | exact s8 | exact s7 | exact HS70.out)
            (first | (go_at_call 112; refine (HLI.out _ (by first | exact .inl rfl | exact .inr rfl)).mono ?_; rintro e w9 ⟨rfl, rfl⟩) | (go_at_call 124; refine (HDM.out _ (by first | exact HFT.out | exact HFQ.out)).mono ?_; rintro e w7 ⟨k, rfl, hk, O2, hs7, hc7⟩; have x7 := hc7.blk HNO.out HX7.out; have s7 : w7.cell? ⟨px, 0, none⟩ = some (P0 ps) ∧ w7.cell? ⟨px, 2, none⟩ = some (.int .i64 X) := ⟨x7.cell 0, x7.cell 2⟩; have A8 := (Below.refl w7.heap.size w7).alloc (Nat.le_refl _) (.cells #[.int .u64 k] 32); have k8 : KL (w7.alloc (.cells #[.int .u64 k] 32)) u5 gone := (Row.frame HK7.out hc7.fr (HS7.out.kl HK7.out) : KL w7 u5 gone).keep A8; have x8 := x7.keep A8; have s8 : (w7.alloc (.cells #[.int .u64 k] 32)).cell? ⟨px, 0, none⟩ = some (P0 ps) ∧ (w7.alloc (.cells #[.int .u64 k] 32)).cell? ⟨px, 2, none⟩ = some (.int .i64 X) := ⟨x8.cell 0, x8.cell 2⟩; have q8 := hs7.keep A8) | (refine step_append_rows rfl (.tmp 36) (.tmp 57) 27 rfl 32 (.int .u64 0) 1 8 Tryz.underlying27 u64_info rfl (by decide) u5 gone.length (gone.map (Value.int .u64)) rfl k8 (.slice (some ⟨w7.heap.size, 0, none⟩) 1 1) 1 [.int .u64 k] rfl (KL.lit w7 k) (keys_one [k]) HM1.out HM2.out ?_; intro y9 w9 r1 r2 r3; have x9 := r2.blk (fun hb => KL.ne k8 x8 (by decide) _ hb rfl) x8; have s9 : w9.cell? ⟨px, 0, none⟩ = some (P0 ps) ∧ w9.cell? ⟨px, 2, none⟩ = some (.int .i64 X) := ⟨x9.cell 0, x9.cell 2⟩)))
        | skip
        have K9 : KL w9 y9 (gone ++ [k]) := by
          unfold KL
          rw [List.map_append, List.length_append]
          exact r1
        have S9 := q8.frame r2 (fun b hb hv => q8.kl k8 b hv hb)
        have C8 : Chg O1 O2 V (w7.alloc (.cells #[.int .u64 k] 32)) := ((HCH.out.below HB7.out).trans hc7).below A8
        have C9 : Chg O1 O2 V w9 := ⟨C8.fr.trans r2 (fun b hb => .inr (HOO.out b hb)), C8.own⟩
        have O9 : ∀ b, y9.ownBlock = some b → V.heap.size ≤ b := fun b hb => (r3 b hb).elim (HOO.out b) (fun h => Nat.le_trans C8.fr.size h)
        have HK9 := Go.Lib.hid K9
        have HS9 := Go.Lib.hid S9
        have HC9 := Go.Lib.hid C9
        have HO9 := Go.Lib.hid O9
        have HG2 : Hid (gone ++ [k] ++ (shrA j E.1).2 = R.2) := Go.Lib.hid (by rw [← HGO.out, ← HE2.out, hk, List.append_assoc])
        clear K9 S9 C8 C9 O9 r1 r2 r3 x9 s9 q8 s8 x8 k8 A8 s7 x7 hc7 hs7 hk hg1
        go_wp2_with fail
        go_roundg j
        case rel => exact ⟨E.1, gone ++ [k], (shrA j E.1).2, O2, HLN1.out.1, HLN1.out.2.1, HLN1.out.2.2, by have := HGL.out; simp; omega, by rw [← HE1.out], HG2.out, HK9.out, HO9.out, HS9.out, HC9.out⟩
        case measure => omega
    · have hse := shrA_end gk s1 (by rw [HSC.out.1]; have := HG.out; omega)
      have hsh := HSH.out
      rw [hsh] at hse
      injection hse with e1 e2
      have HG2 : Hid (gone = R.2) := Go.Lib.hid (by
        have hgo := HGO.out
        rw [e2, List.append_nil] at hgo
        exact hgo)
      obtain ⟨N2, hN2⟩ : ∃ N2 : Nat, N2 = (cf - (s1.t.length : Int)).toNat := ⟨_, rfl⟩
      have hNn : (s1.t.length : Int) ≤ cf := by have := HG.out; omega
      have hN3 : (N2 : Int) = cf - s1.t.length := by omega
      have hcb : cutB R.1 = ⟨cf, X, s1.t, s1.u, s1.b.take N2, s1.d⟩ := by
        rw [e1, hN2]
        unfold cutB
        rw [HSC.out.1, HSC.out.2]
      have HCB := Go.Lib.hid hcb
      have HN3 := Go.Lib.hid hN3
      have HC6' := Go.Lib.hid (HCH.out.below HBV6.out)
      have HK6' := Go.Lib.hid (HKO.out.keep HBV6.out)
      have hl := len_four HS6.out.qok
      have hl1 : s1.t.length < 50000 := by omega
      have hl2 : s1.b.length < 50000 := by omega
      have hl3 : s1.d.length < 50000 := by omega
      clear hsh e1 e2 hN2 hcb hl HSH HGO HG HGL hN3 hNn
      go_wp2_with fail
      clear hlt
      go_loopg [] s1.b.length (fun g wr => g ≤ s1.b.length ∧ (N2 ≤ g ∨ g = s1.b.length) ∧ KL wr u5 R.2 ∧ ∃ O', Sta wr ps O' (qN [s1.t, s1.u, s1.b.take g, s1.d]) p ∧ Chg O1 O' V wr)
      case atStart => exact ⟨Nat.le_refl _, .inr rfl, by rw [← HG2.out]; exact HK6'.out, O', by rw [List.take_length]; exact HS6.out, HC6'.out⟩
      case round =>
        clear HS6 HC6' HK6' HX6 HBV6 HM6 HKO HCH HNO
        obtain ⟨hg, hng, hko, O', hst, hch⟩ := hrel
        have hxw := hch.blk HN.out HXV.out
        have hno := hch.not lxV HN.out
        have hlen : (s1.b.take gk).length = gk := by rw [List.length_take]; omega
        have RD8 : ∃ V, V = (wr.alloc (.cells #[.int .i64 0, .int .i64 2] 3)).drew ∧ Below wr.heap.size wr V ∧ Blk V px [P0 ps, .int .i64 cf, .int .i64 X] 96 ∧ Sta V ps O' (qN [s1.t, s1.u, s1.b.take gk, s1.d]) p ∧ Calls Tryz.prog 74 #[P0 px, .slice (some ⟨wr.heap.size, 0, none⟩) 2 2] V fun e w' => e = .returned (.int .i64 (s1.t.length + (s1.b.take gk).length : Nat)) ∧ V = w' := many_at px cf X 0 2 (by simp [lsA]) (by simp [lsA]) wr hxw hst
        rw [hlen] at RD8
        obtain ⟨V8, hV8, BV8, xV8, sV8, mV8⟩ := RD8
        have HV8 := Go.Lib.hid hV8
        have HBV8 := Go.Lib.hid BV8
        have HX8 := Go.Lib.hid xV8
        have HS8 := Go.Lib.hid sV8
        have HM8 := Go.Lib.hid mV8
        have lV8 := xV8.lt
        have HC8 : Hid (V8.cell? ⟨px, 1, none⟩ = some (.int .i64 cf)) := Go.Lib.hid (xV8.cell 1)
        have HK8 : Hid ((wr.alloc (.cells #[.int .i64 0, .int .i64 2] 3)).drew.cell? ⟨px, 1, none⟩ = some (.int .i64 cf)) := Go.Lib.hid (by rw [← hV8]; exact HC8.out)
        have HD8 : Hid (wr.drew.cell? ⟨px, 1, none⟩ = some (.int .i64 cf)) := Go.Lib.hid (hxw.cell 1)
        have lx8 := hxw.lt
        clear hV8 BV8 xV8 sV8 mV8
        have HNO := Go.Lib.hid hno
        have HKO := Go.Lib.hid hko
        have HCH := Go.Lib.hid hch
        have HN2 := Go.Lib.hid hng
        clear hno hko hch hng hst hxw hlen
        go_wp2_with fail
        go_region_held3 (fun W' => W'.cell? ⟨px, 1, none⟩ = some (.int .i64 cf))
          (first | exact HK8.out | exact HC8.out | exact HD8.out)
          (first | (go_at_call 74; rw [← HV8.out]; refine HM8.out.mono ?_; rintro e w9 ⟨rfl, rfl⟩))
        by_cases hlt : cf < (s1.t.length : Int) + gk
        · obtain ⟨j, rfl⟩ : ∃ j, gk = j + 1 := ⟨gk - 1, by have := HN3.out; omega⟩
          have hjl : j < s1.b.length := by omega
          obtain ⟨x, hx, hxj⟩ : ∃ x, s1.b.take (j + 1) = s1.b.take j ++ [x] ∧ s1.b[j]? = some x := ⟨s1.b[j], by rw [List.take_add_one, List.getElem?_eq_getElem hjl]; rfl, List.getElem?_eq_getElem hjl⟩
          have st8 := HS8.out
          rw [hx] at st8
          have nd := nd_four st8.qok
          have hxb : x ∈ s1.b.take j ++ [x] := by simp
          have hls : [s1.t, s1.u, s1.b.take j ++ [x], s1.d].map (fun L => wo L x) = [s1.t, s1.u, s1.b.take j, s1.d] := by
            simp only [List.map_cons, List.map_nil]
            rw [wo_id (fun h => (nd.tx x h).2.1 hxb), wo_id (fun h => (nd.ux x h).1 hxb), wo_id (nd.bx x hxb), wo_last nd.nb]
          have hcut := acut_some px cf X 2 (A := s1.b.take j) (x := x) V8 (by simp) (by simp) HX8.out HNO.out st8
          rw [hls] at hcut
          have HCUT := Go.Lib.hid hcut
          have HN2' : Hid (N2 ≤ j) := Go.Lib.hid (by have := HN3.out; omega)
          clear hx hxj st8 nd hxb hls hcut
          go_wp2_with fail
          refine HCUT.out.mono ?_
          rintro e w9 ⟨rfl, O9, hs9, hc9⟩
          have HS9 := Go.Lib.hid hs9
          have HC9 := Go.Lib.hid ((HCH.out.below HBV8.out).trans hc9)
          have HK9 : Hid (KL w9 u5 R.2) := Go.Lib.hid (Row.frame (HKO.out.keep HBV8.out) hc9.fr (HS8.out.kl (HKO.out.keep HBV8.out)))
          clear hs9 hc9
          go_wp2_with fail
          go_roundg j
          case rel => exact ⟨by omega, .inl HN2'.out, HK9.out, O9, HS9.out, HC9.out⟩
          case measure => omega
        · have htk : s1.b.take gk = s1.b.take N2 := by
            rcases HN2.out with h | h
            · rw [show gk = N2 by have := HN3.out; omega]
            · rw [h, List.take_length, List.take_of_length_le (by have := HN3.out; omega)]
          have hs8 := HS8.out
          rw [htk] at hs8
          have HS8' := Go.Lib.hid hs8
          have HK8' := Go.Lib.hid (HKO.out.keep HBV8.out)
          have HC8' := Go.Lib.hid (HCH.out.below HBV8.out)
          clear htk hs8
          go_wp2_with fail
          clear HS8 HC8 HK8 HD8 HM8 HX8 HBV8 HKO HCH HNO
          clear hlt
          obtain ⟨b1, hb1⟩ : ∃ b1, b1 = s1.b.take N2 := ⟨_, rfl⟩
          rw [← hb1] at HS8'
          obtain ⟨J, hJ⟩ : ∃ J : Nat, J = min s1.d.length (cf - (b1.length : Int)).toNat := ⟨_, rfl⟩
          obtain ⟨I, hI⟩ : ∃ I : Nat, I = min b1.length (cf - (J : Int)).toNat := ⟨_, rfl⟩
          have hbl : b1.length < 50000 := by rw [hb1, List.length_take]; omega
          have hJl : J ≤ s1.d.length := by omega
          have hfin : cutE (cutD (cutB R.1)) = ⟨cf, X, s1.t, s1.u, b1.take I, s1.d.take J⟩ := by
            rw [HCB.out, ← hb1]
            have e1 : s1.d.take (cf - (b1.length : Int)).toNat = s1.d.take J := by
              rw [hJ]
              by_cases h : s1.d.length ≤ (cf - (b1.length : Int)).toNat
              · rw [Nat.min_eq_left h, List.take_length, List.take_of_length_le h]
              · rw [Nat.min_eq_right (by omega)]
            have e2 : (s1.d.take J).length = J := by rw [List.length_take]; omega
            have e3 : b1.take (cf - (J : Int)).toNat = b1.take I := by
              rw [hI]
              by_cases h : b1.length ≤ (cf - (J : Int)).toNat
              · rw [Nat.min_eq_left h, List.take_length, List.take_of_length_le h]
              · rw [Nat.min_eq_right (by omega)]
            simp only [cutE, cutD]
            rw [e1, e2, e3]
          have HFIN := Go.Lib.hid hfin
          have HJ := Go.Lib.hid hJ
          have HI := Go.Lib.hid hI
          have HJL := Go.Lib.hid hJl
          clear hb1 hJ hI hfin HCB hJl HN3
          go_loopg [] (b1.length + s1.d.length) (fun g wr => ∃ i j : Nat, i + j = g ∧ i ≤ b1.length ∧ j ≤ s1.d.length ∧ J ≤ j ∧ I ≤ i ∧ (i < b1.length → j = 0) ∧ KL wr u5 R.2 ∧ ∃ O', Sta wr ps O' (qN [s1.t, s1.u, b1.take i, s1.d.take j]) p ∧ Chg O1 O' V wr)
          case atStart => exact ⟨b1.length, s1.d.length, rfl, Nat.le_refl _, Nat.le_refl _, HJL.out, by have := HI.out; omega, fun h => absurd h (Nat.lt_irrefl _), HK8'.out, O', by rw [List.take_length, List.take_length]; exact HS8'.out, HC8'.out⟩
          case round =>
            clear HS8' HK8' HC8'
            obtain ⟨i, j, hij, hi, hj, hJj, hIi, hzero, hko, O', hst, hch⟩ := hrel
            have hxw := hch.blk HN.out HXV.out
            have hno := hch.not lxV HN.out
            have hli : (b1.take i).length = i := by rw [List.length_take]; omega
            have hlj : (s1.d.take j).length = j := by rw [List.length_take]; omega
            have RD9 : ∃ V, V = (wr.alloc (.cells #[.int .i64 2, .int .i64 3] 3)).drew ∧ Below wr.heap.size wr V ∧ Blk V px [P0 ps, .int .i64 cf, .int .i64 X] 96 ∧ Sta V ps O' (qN [s1.t, s1.u, b1.take i, s1.d.take j]) p ∧ Calls Tryz.prog 74 #[P0 px, .slice (some ⟨wr.heap.size, 0, none⟩) 2 2] V fun e w' => e = .returned (.int .i64 ((b1.take i).length + (s1.d.take j).length : Nat)) ∧ V = w' := many_at px cf X 2 3 (by simp [lsA]) (by simp [lsA]) wr hxw hst
            rw [hli, hlj] at RD9
            obtain ⟨V9, hV9, BV9, xV9, sV9, mV9⟩ := RD9
            have HV9 := Go.Lib.hid hV9
            have HBV9 := Go.Lib.hid BV9
            have HX9 := Go.Lib.hid xV9
            have HS9 := Go.Lib.hid sV9
            have HM9 := Go.Lib.hid mV9
            have lV9 := xV9.lt
            have HC9 : Hid (V9.cell? ⟨px, 1, none⟩ = some (.int .i64 cf)) := Go.Lib.hid (xV9.cell 1)
            have HK9 : Hid ((wr.alloc (.cells #[.int .i64 2, .int .i64 3] 3)).drew.cell? ⟨px, 1, none⟩ = some (.int .i64 cf)) := Go.Lib.hid (by rw [← hV9]; exact HC9.out)
            have HD9 : Hid (wr.drew.cell? ⟨px, 1, none⟩ = some (.int .i64 cf)) := Go.Lib.hid (hxw.cell 1)
            have lx9 := hxw.lt
            clear hV9 BV9 xV9 sV9 mV9
            have HNO := Go.Lib.hid hno
            have HKO := Go.Lib.hid hko
            have HCH := Go.Lib.hid hch
            have HZ := Go.Lib.hid hzero
            have HIJ := Go.Lib.hid hij
            have HJJ := Go.Lib.hid hJj
            have HII := Go.Lib.hid hIi
            have hi2 : i < 50000 := by omega
            have hj2 : j < 50000 := by omega
            clear hno hko hch hzero hst hxw hli hlj hij hJj hIi
            go_wp2_with fail
            go_region_held3 (fun W' => W'.cell? ⟨px, 1, none⟩ = some (.int .i64 cf))
              (first | exact HK9.out | exact HC9.out | exact HD9.out)
              (first | (go_at_call 74; rw [← HV9.out]; refine HM9.out.mono ?_; rintro e w9 ⟨rfl, rfl⟩))
            by_cases hlt : cf < (i : Int) + j
            · by_cases hj0 : 0 < j
              · -- a key falls off d
                obtain ⟨k, rfl⟩ : ∃ k, j = k + 1 := ⟨j - 1, by omega⟩
                have hkl : k < s1.d.length := by omega
                obtain ⟨x, hx, hxj⟩ : ∃ x, s1.d.take (k + 1) = s1.d.take k ++ [x] ∧ s1.d[k]? = some x := ⟨s1.d[k], by rw [List.take_add_one, List.getElem?_eq_getElem hkl]; rfl, List.getElem?_eq_getElem hkl⟩
                have st9 := HS9.out
                rw [hx] at st9
                have nd := nd_four st9.qok
                have hxb : x ∈ s1.d.take k ++ [x] := by simp
                have hls : [s1.t, s1.u, b1.take i, s1.d.take k ++ [x]].map (fun L => wo L x) = [s1.t, s1.u, b1.take i, s1.d.take k] := by
                  simp only [List.map_cons, List.map_nil]
                  rw [wo_id (fun h => (nd.tx x h).2.2 hxb), wo_id (fun h => (nd.ux x h).2 hxb), wo_id (fun h => nd.bx x h hxb), wo_last nd.nd]
                have hcut := acut_some px cf X 3 (A := s1.d.take k) (x := x) V9 (by simp) (by simp) HX9.out HNO.out st9
                rw [hls] at hcut
                have HCUT := Go.Lib.hid hcut
                clear hx hxj st9 nd hxb hls hcut
                go_wp2_with fail
                refine HCUT.out.mono ?_
                rintro e w8 ⟨rfl, O9, hs9, hc9⟩
                have HS10 := Go.Lib.hid hs9
                have HC10 := Go.Lib.hid ((HCH.out.below HBV9.out).trans hc9)
                have HK10 : Hid (KL w8 u5 R.2) := Go.Lib.hid (Row.frame (HKO.out.keep HBV9.out) hc9.fr (HS9.out.kl (HKO.out.keep HBV9.out)))
                clear hs9 hc9
                go_wp2_with fail
                go_roundg (i + k)
                case rel =>
                  have hz := HZ.out
                  have hib : i = b1.length := by omega
                  refine ⟨i, k, rfl, by omega, by omega, ?_, HII.out, fun h => absurd h (by omega), HK10.out, O9, HS10.out, HC10.out⟩
                  have := HJ.out
                  omega
                case measure => have := HIJ.out; omega
              · -- d has none: a key falls off b
                have hj00 : j = 0 := by omega
                subst hj00
                obtain ⟨k, rfl⟩ : ∃ k, i = k + 1 := ⟨i - 1, by omega⟩
                have hkl : k < b1.length := by omega
                obtain ⟨x, hx, hxj⟩ : ∃ x, b1.take (k + 1) = b1.take k ++ [x] ∧ b1[k]? = some x := ⟨b1[k], by rw [List.take_add_one, List.getElem?_eq_getElem hkl]; rfl, List.getElem?_eq_getElem hkl⟩
                have hn := acut_none (ps := ps) (O := O') (p := p) (Ls := [s1.t, s1.u, b1.take (k + 1), s1.d.take 0]) px cf X 3 V9 (by simp) (by simp) HX9.out HS9.out
                have HCN := Go.Lib.hid hn
                have st9 := HS9.out
                rw [hx] at st9
                have nd := nd_four st9.qok
                have hxb : x ∈ b1.take k ++ [x] := by simp
                have hls : [s1.t, s1.u, b1.take k ++ [x], s1.d.take 0].map (fun L => wo L x) = [s1.t, s1.u, b1.take k, s1.d.take 0] := by
                  simp only [List.map_cons, List.map_nil]
                  rw [wo_id (fun h => (nd.tx x h).2.1 hxb), wo_id (fun h => (nd.ux x h).1 hxb), wo_id (nd.bx x hxb), wo_last nd.nb]
                have HCUT := Go.Lib.hid (fun w' (hb : Below V9.heap.size V9 w') => by
                  have h' := acut_some px cf X 2 (A := b1.take k) (x := x) w' (by simp) (by simp) (HX9.out.keep hb) HNO.out (st9.keep hb)
                  rw [hls] at h'
                  exact h')
                clear hx hxj nd hxb hls hn st9
                go_wp2_with fail
                refine HCN.out.mono ?_
                rintro e w7 ⟨rfl, hb7⟩
                have HU := Go.Lib.hid (HCUT.out w7 hb7)
                have HB7 := Go.Lib.hid hb7
                clear hb7
                go_wp2_with fail
                refine HU.out.mono ?_
                rintro e w8 ⟨rfl, O9, hs9, hc9⟩
                have HS10 := Go.Lib.hid hs9
                have HB79 := Go.Lib.hid (HBV9.out.trans (HB7.out.mono HBV9.out.size))
                have HC10 := Go.Lib.hid ((HCH.out.below HB79.out).trans hc9)
                have HK10 : Hid (KL w8 u5 R.2) := Go.Lib.hid (Row.frame (HKO.out.keep HB79.out) hc9.fr ((HS9.out.keep HB7.out).kl (HKO.out.keep HB79.out)))
                clear hs9 hc9
                go_wp2_with fail
                go_roundg (k + 0)
                case rel =>
                  refine ⟨k, 0, rfl, by omega, by omega, HJJ.out, ?_, fun _ => rfl, HK10.out, O9, HS10.out, HC10.out⟩
                  have h1 := HI.out
                  have h2 := HJJ.out
                  omega
                case measure => have := HIJ.out; omega
            · have hi9 : i = I ∧ j = J := by
                have h1 := HI.out
                have h2 := HJ.out
                have h3 := HZ.out
                have h4 := HII.out
                have h5 := HJJ.out
                by_cases hib : i < b1.length
                · have := h3 hib
                  omega
                · omega
              obtain ⟨rfl, rfl⟩ := hi9
              have HK10 := Go.Lib.hid (HKO.out.keep HBV9.out)
              have HC10 := Go.Lib.hid (HCH.out.below HBV9.out)
              go_wp2_with fail
              go_ret
              have hch := HCV.out.trans (chg_up px HC10.out)
              first
              | refine ⟨_, _, rfl, ?_, ⟨ps, O', ?_, ?_, HNO.out, rfl⟩, hch⟩
              | refine ⟨_, rfl, ?_, _, ⟨ps, O', ?_, ?_, HNO.out, rfl⟩, hch⟩
              · rw [HT.out]; exact HK10.out
              · rw [HT.out]; simp only; rw [HFIN.out]; exact HX9.out
              · rw [HT.out]; simp only; rw [HFIN.out]; exact HS9.out
end
end Go.Proofs.YtlakojncjldpbaaGreat
