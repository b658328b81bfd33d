/- The adaptive cache over a store: fresh. -/
import Derived.Test.YtlakojncjldpbaaGreatAca4
namespace Go.Proofs.YtlakojncjldpbaaGreat
open Go.RowKit Hop
set_option linter.unusedVariables false
set_option linter.unusedSimpArgs false
set_option maxRecDepth 100000
section
variable {ps : Nat} {O : Nat → Prop} {p : Nat}
/-- Behind the call's slice of two numbers. -/
theorem many_at (px : Nat) (c q : Int) {Ls : List (List Int)} (a b : Nat) (ha : a < Ls.length) (hb : b < Ls.length) (w : World) (hx : Blk w px [P0 ps, .int .i64 c, .int .i64 q] 96) (H : Sta w ps O (qN Ls) p) :
    ∃ V, V = (w.alloc (.cells #[.int .i64 a, .int .i64 b] 3)).drew ∧ Below w.heap.size w V ∧ Blk V px [P0 ps, .int .i64 c, .int .i64 q] 96 ∧ Sta V ps O (qN Ls) p ∧
      Calls Tryz.prog 74 #[P0 px, .slice (some ⟨w.heap.size, 0, none⟩) 2 2] V fun e w' => e = .returned (.int .i64 ((Ls.getD a []).length + (Ls.getD b []).length : Nat)) ∧ V = w' := by
  have BV : Below w.heap.size w (w.alloc (.cells #[.int .i64 a, .int .i64 b] 3)).drew := ((Below.refl _ _).alloc (Nat.le_refl _) _).drew
  have bV : Blk (w.alloc (.cells #[.int .i64 a, .int .i64 b] 3)).drew w.heap.size [.int .i64 a, .int .i64 b] 3 := Blk.new0 w [.int .i64 a, .int .i64 b] 3
  exact ⟨_, rfl, BV, hx.keep BV, H.keep BV, amany_any px c q a b w.heap.size _ ha hb bV (hx.keep BV) (H.keep BV)⟩
set_option maxHeartbeats 12800000 in
theorem afresh_any (px : Nat) (s : AS) (w : World) (hs : s.ok) (hx : Blk w px [P0 ps, .int .i64 s.c, .int .i64 s.p] 96) (hxo : ¬ O px) (H : Sta w ps O (qN (lsA s)) p) :
    Calls Tryz.prog 113 #[P0 px] w fun e w' => ∃ vo O', e = .returned vo ∧ KL w' vo (freshA s).2 ∧ Sta w' ps O' (qN (lsA (freshA s).1)) p ∧ Chg O O' w w' := by
  have hc1 := hs.lo
  have hc2 := hs.hi
  have hal := hs.al
  have htu := hs.tu
  obtain ⟨N, hN⟩ : ∃ N : Nat, N = s.t.length + s.u.length + s.b.length + s.d.length := ⟨_, rfl⟩
  have hTT : Calls Tryz.prog 138 #[P0 ps] w fun e w' => e = .returned (.int .i64 N) ∧ w = w' := by
    have h := total_sta w H
    rw [tot_qN] at h
    have e : ((lsA s).map List.length).sum = N := by
      rw [hN]
      simp [lsA]
      omega
    rw [e] at h
    exact h
  have HTT := Go.Lib.hid hTT
  have HR : Hid (freshA s = if s.c ≤ (s.t.length : Int) + s.b.length then (if (s.t.length : Int) < s.c then replA ⟨s.c, s.p, s.t, s.u, s.b.dropLast, s.d⟩ false else (⟨s.c, s.p, s.t.dropLast, s.u, s.b, s.d⟩, [s.t.getLastD 0])) else if (s.t.length : Int) + s.u.length + s.b.length + s.d.length < s.c then (s, []) else if 2 * s.c ≤ (s.t.length : Int) + s.u.length + s.b.length + s.d.length ∧ 0 < s.d.length then replA ⟨s.c, s.p, s.t, s.u, s.b, s.d.dropLast⟩ false else replA s false) := Go.Lib.hid rfl
  have HD1 : Hid (w.drew.cell? ⟨px, 0, none⟩ = some (P0 ps) ∧ w.drew.cell? ⟨px, 1, none⟩ = some (.int .i64 s.c)) := Go.Lib.hid ⟨hx.cell 0, hx.cell 1⟩
  have nd := Go.Lib.hid (nd_four H.qok)
  have HXO := Go.Lib.hid hxo
  have c0 := hx.cell 0
  simp only [List.getElem?_cons_zero, List.getElem?_cons_succ] at c0
  have lx := hx.lt
  have RD1 : ∃ V, V = (w.alloc (.cells #[.int .i64 0, .int .i64 2] 3)).drew ∧ Below w.heap.size w V ∧ Blk V px [P0 ps, .int .i64 s.c, .int .i64 s.p] 96 ∧ Sta V ps O (qN (lsA s)) p ∧ Calls Tryz.prog 74 #[P0 px, .slice (some ⟨w.heap.size, 0, none⟩) 2 2] V fun e w' => e = .returned (.int .i64 (s.t.length + s.b.length : Nat)) ∧ V = w' := many_at px s.c s.p 0 2 (by simp [lsA]) (by simp [lsA]) w hx H
  obtain ⟨V1, hV1, BV1, xV1, sV1, mV1⟩ := RD1
  have HV1 := Go.Lib.hid hV1
  have HB1 := Go.Lib.hid BV1
  have HX1 := Go.Lib.hid xV1
  have HS1 := Go.Lib.hid sV1
  have HM1 := Go.Lib.hid mV1
  have lV1 := xV1.lt
  have HC1 : Hid (V1.cell? ⟨px, 0, none⟩ = some (P0 ps) ∧ V1.cell? ⟨px, 1, none⟩ = some (.int .i64 s.c)) := Go.Lib.hid ⟨xV1.cell 0, xV1.cell 1⟩
  have HK1 : Hid ((w.alloc (.cells #[.int .i64 0, .int .i64 2] 3)).drew.cell? ⟨px, 0, none⟩ = some (P0 ps) ∧ (w.alloc (.cells #[.int .i64 0, .int .i64 2] 3)).drew.cell? ⟨px, 1, none⟩ = some (.int .i64 s.c)) := Go.Lib.hid (by rw [← hV1]; exact HC1.out)
  clear hV1 BV1 xV1 sV1 mV1
  have HLN : Hid (Calls Tryz.prog 112 #[P0 ps, .int .i64 0] V1 fun e w' => e = .returned (.int .i64 s.t.length) ∧ V1 = w') := Go.Lib.hid (len_k 0 V1 (by simp [lsA]) HS1.out)
  have HRP := Go.Lib.hid (fun (s' : AS) (hc : 1 ≤ s'.c ∧ s'.c ≤ 1048576) (w' : World) (O' : Nat → Prop) hx hn h => arepl_any (ps := ps) (O := O') (p := p) px s' false w' hc hx hn h)
  by_cases hA : s.c ≤ (s.t.length : Int) + s.b.length
  · by_cases hB : (s.t.length : Int) < s.c
    · -- a key falls off b, and room is made
      obtain ⟨A, x, hbx⟩ := snoc_of_pos (L := s.b) (by omega)
      have RD2 : ∃ V, V = (V1.alloc (.cells #[.int .i64 0, .int .i64 2] 3)).drew ∧ Below V1.heap.size V1 V ∧ Blk V px [P0 ps, .int .i64 s.c, .int .i64 s.p] 96 ∧ Sta V ps O (qN (lsA s)) p ∧ Calls Tryz.prog 74 #[P0 px, .slice (some ⟨V1.heap.size, 0, none⟩) 2 2] V fun e w' => e = .returned (.int .i64 (s.t.length + s.b.length : Nat)) ∧ V = w' := many_at px s.c s.p 0 2 (by simp [lsA]) (by simp [lsA]) V1 HX1.out HS1.out
      obtain ⟨V2, hV2, BV2, xV2, sV2, mV2⟩ := RD2
      have HV2 := Go.Lib.hid hV2
      have HB2 := Go.Lib.hid BV2
      have HX2 := Go.Lib.hid xV2
      have HS2 := Go.Lib.hid sV2
      have HM2 := Go.Lib.hid mV2
      have lV2 := xV2.lt
      have HC2 : Hid (V2.cell? ⟨px, 0, none⟩ = some (P0 ps) ∧ V2.cell? ⟨px, 1, none⟩ = some (.int .i64 s.c)) := Go.Lib.hid ⟨xV2.cell 0, xV2.cell 1⟩
      have HK2 : Hid ((V1.alloc (.cells #[.int .i64 0, .int .i64 2] 3)).drew.cell? ⟨px, 0, none⟩ = some (P0 ps) ∧ (V1.alloc (.cells #[.int .i64 0, .int .i64 2] 3)).drew.cell? ⟨px, 1, none⟩ = some (.int .i64 s.c)) := Go.Lib.hid (by rw [← hV2]; exact HC2.out)
      clear hV2 BV2 xV2 sV2 mV2
      have HD2 : Hid (V1.drew.cell? ⟨px, 0, none⟩ = some (P0 ps) ∧ V1.drew.cell? ⟨px, 1, none⟩ = some (.int .i64 s.c)) := Go.Lib.hid HC1.out
      have hR : freshA s = replA ⟨s.c, s.p, s.t, s.u, A, s.d⟩ false := by
        rw [HR.out, if_pos hA, if_pos hB, hbx, List.dropLast_concat]
      have HRx := Go.Lib.hid hR
      have hcut := acut_some px s.c s.p 2 (A := A) (x := x) V2 (by simp [lsA]) (by simp [lsA, hbx]) HX2.out HXO.out HS2.out
      have hls : (lsA s).map (fun L => wo L x) = lsA ⟨s.c, s.p, s.t, s.u, A, s.d⟩ := by
        have n1 := nd.out.nb
        rw [hbx] at n1
        have hxb : x ∈ s.b := by rw [hbx]; simp
        simp only [lsA, List.map_cons, List.map_nil]
        rw [wo_id (fun h => (nd.out.tx x h).2.1 hxb), wo_id (fun h => (nd.out.ux x h).1 hxb), wo_id (nd.out.bx x hxb), hbx, wo_last n1]
      rw [hls] at hcut
      have HCUT := Go.Lib.hid hcut
      have hg1 : decide (s.c ≤ (s.t.length : Int) + s.b.length) = true := decide_eq_true hA
      have hg2 : decide (s.c ≤ (s.t.length : Int)) = false := decide_eq_false (by omega)
      have hl1 : s.t.length < 100 := by omega
      have hl2 : s.b.length < 100 := by omega
      clear hTT hR hcut hls hx hxo H hN hbx hal htu hs
      generalize s.t.length = n1 at *
      generalize s.b.length = n3 at *
      go_enter Tryz.func113, Tryz.ntmps113
      go_wp2_with fail
      refine HTT.out.mono ?_
      rintro e w9 ⟨rfl, rfl⟩
      go_wp2_with fail
      go_region_held3 (fun W' => W'.cell? ⟨px, 0, none⟩ = some (P0 ps) ∧ W'.cell? ⟨px, 1, none⟩ = some (.int .i64 s.c))
        (first | exact HK1.out | exact HC1.out | exact HD1.out)
        (first | (go_at_call 74; rw [← HV1.out]; refine HM1.out.mono ?_; rintro e w9 ⟨rfl, rfl⟩) | (go_at_call 112; refine HLN.out.mono ?_; rintro e w9 ⟨rfl, rfl⟩))
      go_wp2_with fail
      go_region_held3 (fun W' => W'.cell? ⟨px, 0, none⟩ = some (P0 ps) ∧ W'.cell? ⟨px, 1, none⟩ = some (.int .i64 s.c))
        (first | exact HK2.out | exact HC2.out | exact HD2.out)
        (first | (go_at_call 74; rw [← HV2.out]; refine HM2.out.mono ?_; rintro e w9 ⟨rfl, rfl⟩))
      go_wp2_with fail
      refine HCUT.out.mono ?_
      rintro e w3 ⟨rfl, O3, hs3, hc3⟩
      have HX3 := Go.Lib.hid (hc3.blk HXO.out HX2.out)
      have HN3 := Go.Lib.hid (hc3.not HX2.out.lt HXO.out)
      have HS3 := Go.Lib.hid hs3
      have HC3 := Go.Lib.hid (((Chg.of_below HB1.out).below HB2.out).trans hc3)
      have HRR := Go.Lib.hid (HRP.out ⟨s.c, s.p, s.t, s.u, A, s.d⟩ ⟨hc1, by show s.c ≤ _; omega⟩ w3 O3 HX3.out HN3.out HS3.out)
      clear hs3 hc3
      go_wp2_with fail
      refine HRR.out.mono ?_
      rintro e w4 ⟨vo, O4, rfl, hk4, hs4, hc4⟩
      have HK4 := Go.Lib.hid hk4
      have HS4 := Go.Lib.hid hs4
      have HC4 := Go.Lib.hid (HC3.out.trans hc4)
      clear hk4 hs4 hc4
      go_wp2_with fail
      go_ret
      exact ⟨vo, O4, rfl, by rw [HRx.out]; exact HK4.out, by rw [HRx.out]; exact HS4.out, HC4.out⟩
    · -- the last of t is evicted
      obtain ⟨A, x, htx⟩ := snoc_of_pos (L := s.t) (by omega)
      have hR : freshA s = (⟨s.c, s.p, A, s.u, s.b, s.d⟩, [x]) := by
        rw [HR.out, if_pos hA, if_neg hB, htx, List.dropLast_concat]
        simp
      have HRx := Go.Lib.hid hR
      have hcut := acut_some px s.c s.p 0 (A := A) (x := x) V1 (by simp [lsA]) (by simp [lsA, htx]) HX1.out HXO.out HS1.out
      have hls : (lsA s).map (fun L => wo L x) = lsA ⟨s.c, s.p, A, s.u, s.b, s.d⟩ := by
        have n1 := nd.out.nt
        rw [htx] at n1
        obtain ⟨n2, n3, n4⟩ := nd.out.tx x (by rw [htx]; simp)
        simp only [lsA, List.map_cons, List.map_nil]
        rw [wo_id n2, wo_id n3, wo_id n4, htx, wo_last n1]
      rw [hls] at hcut
      have HCUT := Go.Lib.hid hcut
      have hg1 : decide (s.c ≤ (s.t.length : Int) + s.b.length) = true := decide_eq_true hA
      have hg2 : decide (s.c ≤ (s.t.length : Int)) = true := decide_eq_true (by omega)
      have hl1 : s.t.length < 100 := by omega
      have hl2 : s.b.length < 100 := by omega
      clear hTT hR hcut hls hx hxo H hN htx hal htu hs
      generalize s.t.length = n1 at *
      generalize s.b.length = n3 at *
      go_enter Tryz.func113, Tryz.ntmps113
      go_wp2_with fail
      refine HTT.out.mono ?_
      rintro e w9 ⟨rfl, rfl⟩
      go_wp2_with fail
      go_region_held3 (fun W' => W'.cell? ⟨px, 0, none⟩ = some (P0 ps) ∧ W'.cell? ⟨px, 1, none⟩ = some (.int .i64 s.c))
        (first | exact HK1.out | exact HC1.out | exact HD1.out)
        (first | (go_at_call 74; rw [← HV1.out]; refine HM1.out.mono ?_; rintro e w9 ⟨rfl, rfl⟩) | (go_at_call 112; refine HLN.out.mono ?_; rintro e w9 ⟨rfl, rfl⟩))
      go_wp2_with fail
      refine HCUT.out.mono ?_
      rintro e w3 ⟨rfl, O3, hs3, hc3⟩
      have A3 := (Below.refl w3.heap.size w3).alloc (Nat.le_refl _) (.cells #[.int .u64 x] 32)
      have HS3 := Go.Lib.hid (hs3.keep A3)
      have HC3 := Go.Lib.hid (((Chg.of_below HB1.out).trans hc3).below A3)
      clear hs3 hc3 A3
      go_wp2_with fail
      go_ret
      exact ⟨_, O3, rfl, by rw [HRx.out]; exact KL.lit w3 x, by rw [HRx.out]; exact HS3.out, HC3.out⟩
  · have HG1 : Hid (decide (s.c ≤ (s.t.length : Int) + s.b.length) = false) := Go.Lib.hid (decide_eq_false hA)
    have RD2 : ∃ V, V = (V1.alloc (.cells #[.int .i64 0, .int .i64 2] 3)).drew ∧ Below V1.heap.size V1 V ∧ Blk V px [P0 ps, .int .i64 s.c, .int .i64 s.p] 96 ∧ Sta V ps O (qN (lsA s)) p ∧ Calls Tryz.prog 74 #[P0 px, .slice (some ⟨V1.heap.size, 0, none⟩) 2 2] V fun e w' => e = .returned (.int .i64 (s.t.length + s.b.length : Nat)) ∧ V = w' := many_at px s.c s.p 0 2 (by simp [lsA]) (by simp [lsA]) V1 HX1.out HS1.out
    obtain ⟨V2, hV2, BV2, xV2, sV2, mV2⟩ := RD2
    have HV2 := Go.Lib.hid hV2
    have HB2 := Go.Lib.hid BV2
    have HX2 := Go.Lib.hid xV2
    have HS2 := Go.Lib.hid sV2
    have HM2 := Go.Lib.hid mV2
    have lV2 := xV2.lt
    have HC2 : Hid (V2.cell? ⟨px, 0, none⟩ = some (P0 ps) ∧ V2.cell? ⟨px, 1, none⟩ = some (.int .i64 s.c)) := Go.Lib.hid ⟨xV2.cell 0, xV2.cell 1⟩
    have HK2 : Hid ((V1.alloc (.cells #[.int .i64 0, .int .i64 2] 3)).drew.cell? ⟨px, 0, none⟩ = some (P0 ps) ∧ (V1.alloc (.cells #[.int .i64 0, .int .i64 2] 3)).drew.cell? ⟨px, 1, none⟩ = some (.int .i64 s.c)) := Go.Lib.hid (by rw [← hV2]; exact HC2.out)
    clear hV2 BV2 xV2 sV2 mV2
    have HD2 : Hid (V1.drew.cell? ⟨px, 0, none⟩ = some (P0 ps) ∧ V1.drew.cell? ⟨px, 1, none⟩ = some (.int .i64 s.c)) := Go.Lib.hid HC1.out
    have e1 := HX2.out.cell 1
    have e0 := HX2.out.cell 0
    simp only [List.getElem?_cons_zero, List.getElem?_cons_succ] at e0 e1
    have hnn : (N : Int) = (s.t.length : Int) + s.u.length + s.b.length + s.d.length := by omega
    have hRr : Hid (freshA s = if (N : Int) < s.c then (s, []) else if 2 * s.c ≤ (N : Int) ∧ 0 < s.d.length then replA ⟨s.c, s.p, s.t, s.u, s.b, s.d.dropLast⟩ false else replA s false) := Go.Lib.hid (by rw [HR.out, if_neg hA, hnn])
    have hl1 : s.t.length < 100 := by omega
    have hl2 : s.b.length < 100 := by omega
    have hl3 : N < 100 := by omega
    have HD := Go.Lib.hid H
    clear hTT HR hx hxo H hN hal htu hs hnn
    by_cases hB : (N : Int) < s.c
    · have hR := hRr.out
      rw [if_pos hB] at hR
      have HRx := Go.Lib.hid hR
      clear hR
      generalize s.t.length = n1 at *
      generalize s.b.length = n3 at *
      go_enter Tryz.func113, Tryz.ntmps113
      go_wp2_with fail
      refine HTT.out.mono ?_
      rintro e w9 ⟨rfl, rfl⟩
      go_wp2_with fail
      have hg1 := HG1.out
      refine wp_region_held_drew (S := fun W' => W'.cell? ⟨px, 0, none⟩ = some (P0 ps) ∧ W'.cell? ⟨px, 1, none⟩ = some (.int .i64 s.c)) (by kernel_rfl) HD1.out (fun hHeld => ?_)
      refine wpAnyH_take (i := 0) (v := ?v0) rfl (by kernel_rfl) (by kernel_rfl) (by kernel_rfl) (fun _ _ _ h => h) (Or.inl ⟨by rfl, ?hy0⟩) (by assumption) ?rest0
      case hy0 => intro w' hSw; (try dsimp only at hSw); go_simp; first | done | with_reducible rfl
      try simp only [Act.put, List.getElem_toArray, List.getElem_cons_succ, List.getElem_cons_zero, List.setIfInBounds_toArray, List.set_cons_zero, List.set_cons_succ]
      refine wpAnyH_take (i := 3) (v := ?v3) rfl (by kernel_rfl) (by kernel_rfl) (by kernel_rfl) (fun _ _ _ h => h) (Or.inl ⟨by rfl, ?hy3⟩) (by assumption) ?rest3
      case hy3 => intro w' hSw; (try dsimp only at hSw); go_simp; first | done | with_reducible rfl
      try simp only [Act.put, List.getElem_toArray, List.getElem_cons_succ, List.getElem_cons_zero, List.setIfInBounds_toArray, List.set_cons_zero, List.set_cons_succ]
      refine wpAnyH_take (i := 4) (v := ?v4) rfl (by kernel_rfl) (by kernel_rfl) (by kernel_rfl) (fun _ _ _ h => h) (Or.inl ⟨by rfl, ?hy4⟩) (by assumption) ?rest4
      case hy4 => intro w' hSw; (try dsimp only at hSw); go_simp; first | done | with_reducible rfl
      try simp only [Act.put, List.getElem_toArray, List.getElem_cons_succ, List.getElem_cons_zero, List.setIfInBounds_toArray, List.set_cons_zero, List.set_cons_succ]
      refine wpAnyH_take (i := 5) (v := ?v5) rfl (by kernel_rfl) (by kernel_rfl) (by kernel_rfl) (fun _ _ _ h => h) (Or.inl ⟨by rfl, ?hy5⟩) (by assumption) ?rest5
      case hy5 => intro w' hSw; (try dsimp only at hSw); go_simp; first | done | with_reducible rfl
      try simp only [Act.put, List.getElem_toArray, List.getElem_cons_succ, List.getElem_cons_zero, List.setIfInBounds_toArray, List.set_cons_zero, List.set_cons_succ]
      refine wpAnyH_take (i := 6) (v := ?v6) rfl (by kernel_rfl) (by kernel_rfl) (by kernel_rfl) (fun _ _ _ h => h) (Or.inl ⟨by rfl, ?hy6⟩) (by assumption) ?rest6
      case hy6 => intro w' hSw; (try dsimp only at hSw); go_simp; first | done | with_reducible rfl
      try simp only [Act.put, List.getElem_toArray, List.getElem_cons_succ, List.getElem_cons_zero, List.setIfInBounds_toArray, List.set_cons_zero, List.set_cons_succ]
      refine wpAnyH_ready (rs := [1]) (by kernel_rfl) (by simp) ?_
      refine AllReadyH.cons rfl (fun K hK => ?_) AllReadyH.nil
      go_simp
      refine hK.out _ _ HK1.out (fun hHeld => ?_)
      clear hK K
      try simp only [Act.put, List.getElem_toArray, List.getElem_cons_succ, List.getElem_cons_zero, List.setIfInBounds_toArray, List.set_cons_zero, List.set_cons_succ]
      refine wpAnyH_ready (rs := [2]) (by kernel_rfl) (by simp) ?_
      refine AllReadyH.cons rfl (fun K hK => ?_) AllReadyH.nil
      go_simp
      rw [← HV1.out]
      refine HM1.out.mono ?_
      rintro e w9 ⟨rfl, rfl⟩
      go_wp2_with fail
      refine hK.out _ _ HC1.out (fun hHeld => ?_)
      clear hK K
      try simp only [Act.put, List.getElem_toArray, List.getElem_cons_succ, List.getElem_cons_zero, List.setIfInBounds_toArray, List.set_cons_zero, List.set_cons_succ]
      refine wpAnyH_take (i := 7) (v := ?v7) rfl (by kernel_rfl) (by kernel_rfl) (by kernel_rfl) (fun _ _ _ h => h) (Or.inl ⟨by rfl, ?hy7⟩) (by assumption) ?rest7
      case hy7 => intro w' hSw; (try dsimp only at hSw); go_simp; first | done | with_reducible rfl
      try simp only [Act.put, List.getElem_toArray, List.getElem_cons_succ, List.getElem_cons_zero, List.setIfInBounds_toArray, List.set_cons_zero, List.set_cons_succ]
      refine wpAnyH_take (i := 8) (v := ?v8) rfl (by kernel_rfl) (by kernel_rfl) (by kernel_rfl) (fun _ _ _ h => h) (Or.inl ⟨by rfl, ?hy8⟩) (by assumption) ?rest8
      case hy8 => intro w' hSw; (try dsimp only at hSw); go_simp; first | done | with_reducible rfl
      try simp only [Act.put, List.getElem_toArray, List.getElem_cons_succ, List.getElem_cons_zero, List.setIfInBounds_toArray, List.set_cons_zero, List.set_cons_succ]
      refine wpAnyH_take (i := 9) (v := undef) rfl (by kernel_rfl) (by kernel_rfl) (by kernel_rfl) (fun _ _ _ h => h) (Or.inr ⟨by rfl, rfl⟩) (by assumption) ?_
      try simp only [Act.put, List.getElem_toArray, List.getElem_cons_succ, List.getElem_cons_zero, List.setIfInBounds_toArray, List.set_cons_zero, List.set_cons_succ]
      refine wpAnyH_take (i := 10) (v := undef) rfl (by kernel_rfl) (by kernel_rfl) (by kernel_rfl) (fun _ _ _ h => h) (Or.inr ⟨by rfl, rfl⟩) (by assumption) ?_
      try simp only [Act.put, List.getElem_toArray, List.getElem_cons_succ, List.getElem_cons_zero, List.setIfInBounds_toArray, List.set_cons_zero, List.set_cons_succ]
      refine wpAnyH_take (i := 11) (v := undef) rfl (by kernel_rfl) (by kernel_rfl) (by kernel_rfl) (fun _ _ _ h => h) (Or.inr ⟨by rfl, rfl⟩) (by assumption) ?_
      try simp only [Act.put, List.getElem_toArray, List.getElem_cons_succ, List.getElem_cons_zero, List.setIfInBounds_toArray, List.set_cons_zero, List.set_cons_succ]
      refine wpAnyH_take (i := 12) (v := undef) rfl (by kernel_rfl) (by kernel_rfl) (by kernel_rfl) (fun _ _ _ h => h) (Or.inr ⟨by rfl, rfl⟩) (by assumption) ?_
      try simp only [Act.put, List.getElem_toArray, List.getElem_cons_succ, List.getElem_cons_zero, List.setIfInBounds_toArray, List.set_cons_zero, List.set_cons_succ]
      refine wpAnyH_take (i := 13) (v := undef) rfl (by kernel_rfl) (by kernel_rfl) (by kernel_rfl) (fun _ _ _ h => h) (Or.inr ⟨by rfl, rfl⟩) (by assumption) ?_
      try simp only [Act.put, List.getElem_toArray, List.getElem_cons_succ, List.getElem_cons_zero, List.setIfInBounds_toArray, List.set_cons_zero, List.set_cons_succ]
      refine wpAnyH_take (i := 14) (v := undef) rfl (by kernel_rfl) (by kernel_rfl) (by kernel_rfl) (fun _ _ _ h => h) (Or.inr ⟨by rfl, rfl⟩) (by assumption) ?_
      try simp only [Act.put, List.getElem_toArray, List.getElem_cons_succ, List.getElem_cons_zero, List.setIfInBounds_toArray, List.set_cons_zero, List.set_cons_succ]
      refine wpAnyH_take (i := 15) (v := undef) rfl (by kernel_rfl) (by kernel_rfl) (by kernel_rfl) (fun _ _ _ h => h) (Or.inr ⟨by rfl, rfl⟩) (by assumption) ?_
      try simp only [Act.put, List.getElem_toArray, List.getElem_cons_succ, List.getElem_cons_zero, List.setIfInBounds_toArray, List.set_cons_zero, List.set_cons_succ]
      refine wpAnyH_take (i := 16) (v := undef) rfl (by kernel_rfl) (by kernel_rfl) (by kernel_rfl) (fun _ _ _ h => h) (Or.inr ⟨by rfl, rfl⟩) (by assumption) ?_
      try simp only [Act.put, List.getElem_toArray, List.getElem_cons_succ, List.getElem_cons_zero, List.setIfInBounds_toArray, List.set_cons_zero, List.set_cons_succ]
      refine wpAnyH_take (i := 17) (v := undef) rfl (by kernel_rfl) (by kernel_rfl) (by kernel_rfl) (fun _ _ _ h => h) (Or.inr ⟨by rfl, rfl⟩) (by assumption) ?_
      try simp only [Act.put, List.getElem_toArray, List.getElem_cons_succ, List.getElem_cons_zero, List.setIfInBounds_toArray, List.set_cons_zero, List.set_cons_succ]
      refine wpAnyH_take (i := 18) (v := undef) rfl (by kernel_rfl) (by kernel_rfl) (by kernel_rfl) (fun _ _ _ h => h) (Or.inr ⟨by rfl, rfl⟩) (by assumption) ?_
      try simp only [Act.put, List.getElem_toArray, List.getElem_cons_succ, List.getElem_cons_zero, List.setIfInBounds_toArray, List.set_cons_zero, List.set_cons_succ]
      refine wpAnyH_take (i := 19) (v := ?v19) rfl (by kernel_rfl) (by kernel_rfl) (by kernel_rfl) (fun _ _ _ h => h) (Or.inl ⟨by rfl, ?hy19⟩) (by assumption) ?rest19
      case hy19 => intro w' hSw; (try dsimp only at hSw); go_simp; first | done | with_reducible rfl
      try simp only [Act.put, List.getElem_toArray, List.getElem_cons_succ, List.getElem_cons_zero, List.setIfInBounds_toArray, List.set_cons_zero, List.set_cons_succ]
      refine wpAnyH_take (i := 20) (v := ?v20) rfl (by kernel_rfl) (by kernel_rfl) (by kernel_rfl) (fun _ _ _ h => h) (Or.inl ⟨by rfl, ?hy20⟩) (by assumption) ?rest20
      case hy20 => intro w' hSw; (try dsimp only at hSw); go_simp; first | done | with_reducible rfl
      try simp only [Act.put, List.getElem_toArray, List.getElem_cons_succ, List.getElem_cons_zero, List.setIfInBounds_toArray, List.set_cons_zero, List.set_cons_succ]
      refine wpAnyH_done (by kernel_rfl) ?_ _
      go_wp2_with fail
      go_region_held3 (fun W' => W'.cell? ⟨px, 0, none⟩ = some (P0 ps) ∧ W'.cell? ⟨px, 1, none⟩ = some (.int .i64 s.c))
        (first | exact HK2.out | exact HC2.out | exact HD2.out)
        (first | (go_at_call 74; rw [← HV2.out]; refine HM2.out.mono ?_; rintro e w9 ⟨rfl, rfl⟩))
      go_wp2_with fail
      go_ret
      exact ⟨_, O, rfl, by rw [HRx.out]; exact KL.nil _, by rw [HRx.out]; exact HS2.out, (Chg.of_below HB1.out).below HB2.out⟩
    · by_cases hC : 2 * s.c ≤ (N : Int)
      · -- a key falls off d, if there is one
        have hcut : ∃ s' : AS, freshA s = replA s' false ∧ s'.c = s.c ∧ s'.p = s.p ∧ Calls Tryz.prog 125 #[P0 px, .int .i64 3] V2 fun e w' => (∃ x ok, e = .returned (.tuple #[.int .u64 x, .bool ok])) ∧ ∃ O', Sta w' ps O' (qN (lsA s')) p ∧ Chg O O' V2 w' := by
          by_cases hd : 0 < s.d.length
          · obtain ⟨A, x, hdx⟩ := snoc_of_pos hd
            refine ⟨⟨s.c, s.p, s.t, s.u, s.b, A⟩, ?_, rfl, rfl, ?_⟩
            · rw [hRr.out, if_neg hB, if_pos ⟨hC, hd⟩, hdx, List.dropLast_concat]
            · refine (acut_some px s.c s.p 3 (A := A) (x := x) V2 (by simp [lsA]) (by simp [lsA, hdx]) HX2.out HXO.out HS2.out).mono ?_
              rintro e w' ⟨rfl, O', h1, h2⟩
              have hls : (lsA s).map (fun L => wo L x) = lsA ⟨s.c, s.p, s.t, s.u, s.b, A⟩ := by
                have n1 := nd.out.nd
                rw [hdx] at n1
                have hxd : x ∈ s.d := by rw [hdx]; simp
                simp only [lsA, List.map_cons, List.map_nil]
                rw [wo_id (fun h => (nd.out.tx x h).2.2 hxd), wo_id (fun h => (nd.out.ux x h).2 hxd), wo_id (fun h => nd.out.bx x h hxd), hdx, wo_last n1]
              rw [hls] at h1
              exact ⟨⟨x, true, rfl⟩, O', h1, h2⟩
          · have hd0 : s.d = [] := List.eq_nil_of_length_eq_zero (by omega)
            refine ⟨s, ?_, rfl, rfl, ?_⟩
            · rw [hRr.out, if_neg hB, if_neg (fun h => hd h.2)]
            · refine (acut_none px s.c s.p 3 V2 (by simp [lsA]) (by simp [lsA, hd0]) HX2.out HS2.out).mono ?_
              rintro e w' ⟨rfl, hb⟩
              exact ⟨⟨0, false, rfl⟩, O, HS2.out.keep hb, Chg.of_below hb⟩
        obtain ⟨s', hR, hsc, hsp, hcut⟩ := hcut
        have HCUT := Go.Lib.hid hcut
        have HRx := Go.Lib.hid hR
        have HSC := Go.Lib.hid (⟨hsc, hsp⟩ : s'.c = s.c ∧ s'.p = s.p)
        clear hcut hR hsc hsp
        generalize s.t.length = n1 at *
        generalize s.b.length = n3 at *
        go_enter Tryz.func113, Tryz.ntmps113
        go_wp2_with fail
        refine HTT.out.mono ?_
        rintro e w9 ⟨rfl, rfl⟩
        go_wp2_with fail
        have hg1 := HG1.out
        refine wp_region_held_drew (S := fun W' => W'.cell? ⟨px, 0, none⟩ = some (P0 ps) ∧ W'.cell? ⟨px, 1, none⟩ = some (.int .i64 s.c)) (by kernel_rfl) HD1.out (fun hHeld => ?_)
        refine wpAnyH_take (i := 0) (v := ?v0b) rfl (by kernel_rfl) (by kernel_rfl) (by kernel_rfl) (fun _ _ _ h => h) (Or.inl ⟨by rfl, ?hy0b⟩) (by assumption) ?rest0b
        case hy0b => intro w' hSw; (try dsimp only at hSw); go_simp; first | done | with_reducible rfl
        try simp only [Act.put, List.getElem_toArray, List.getElem_cons_succ, List.getElem_cons_zero, List.setIfInBounds_toArray, List.set_cons_zero, List.set_cons_succ]
        refine wpAnyH_take (i := 3) (v := ?v3b) rfl (by kernel_rfl) (by kernel_rfl) (by kernel_rfl) (fun _ _ _ h => h) (Or.inl ⟨by rfl, ?hy3b⟩) (by assumption) ?rest3b
        case hy3b => intro w' hSw; (try dsimp only at hSw); go_simp; first | done | with_reducible rfl
        try simp only [Act.put, List.getElem_toArray, List.getElem_cons_succ, List.getElem_cons_zero, List.setIfInBounds_toArray, List.set_cons_zero, List.set_cons_succ]
        refine wpAnyH_take (i := 4) (v := ?v4b) rfl (by kernel_rfl) (by kernel_rfl) (by kernel_rfl) (fun _ _ _ h => h) (Or.inl ⟨by rfl, ?hy4b⟩) (by assumption) ?rest4b
        case hy4b => intro w' hSw; (try dsimp only at hSw); go_simp; first | done | with_reducible rfl
        try simp only [Act.put, List.getElem_toArray, List.getElem_cons_succ, List.getElem_cons_zero, List.setIfInBounds_toArray, List.set_cons_zero, List.set_cons_succ]
        refine wpAnyH_take (i := 5) (v := ?v5b) rfl (by kernel_rfl) (by kernel_rfl) (by kernel_rfl) (fun _ _ _ h => h) (Or.inl ⟨by rfl, ?hy5b⟩) (by assumption) ?rest5b
        case hy5b => intro w' hSw; (try dsimp only at hSw); go_simp; first | done | with_reducible rfl
        try simp only [Act.put, List.getElem_toArray, List.getElem_cons_succ, List.getElem_cons_zero, List.setIfInBounds_toArray, List.set_cons_zero, List.set_cons_succ]
        refine wpAnyH_take (i := 6) (v := ?v6b) rfl (by kernel_rfl) (by kernel_rfl) (by kernel_rfl) (fun _ _ _ h => h) (Or.inl ⟨by rfl, ?hy6b⟩) (by assumption) ?rest6b
        case hy6b => intro w' hSw; (try dsimp only at hSw); go_simp; first | done | with_reducible rfl
        try simp only [Act.put, List.getElem_toArray, List.getElem_cons_succ, List.getElem_cons_zero, List.setIfInBounds_toArray, List.set_cons_zero, List.set_cons_succ]
        refine wpAnyH_ready (rs := [1]) (by kernel_rfl) (by simp) ?_
        refine AllReadyH.cons rfl (fun K hK => ?_) AllReadyH.nil
        go_simp
        refine hK.out _ _ HK1.out (fun hHeld => ?_)
        clear hK K
        try simp only [Act.put, List.getElem_toArray, List.getElem_cons_succ, List.getElem_cons_zero, List.setIfInBounds_toArray, List.set_cons_zero, List.set_cons_succ]
        refine wpAnyH_ready (rs := [2]) (by kernel_rfl) (by simp) ?_
        refine AllReadyH.cons rfl (fun K hK => ?_) AllReadyH.nil
        go_simp
        rw [← HV1.out]
        refine HM1.out.mono ?_
        rintro e w9 ⟨rfl, rfl⟩
        go_wp2_with fail
        refine hK.out _ _ HC1.out (fun hHeld => ?_)
        clear hK K
        try simp only [Act.put, List.getElem_toArray, List.getElem_cons_succ, List.getElem_cons_zero, List.setIfInBounds_toArray, List.set_cons_zero, List.set_cons_succ]
        refine wpAnyH_take (i := 7) (v := ?v7b) rfl (by kernel_rfl) (by kernel_rfl) (by kernel_rfl) (fun _ _ _ h => h) (Or.inl ⟨by rfl, ?hy7b⟩) (by assumption) ?rest7b
        case hy7b => intro w' hSw; (try dsimp only at hSw); go_simp; first | done | with_reducible rfl
        try simp only [Act.put, List.getElem_toArray, List.getElem_cons_succ, List.getElem_cons_zero, List.setIfInBounds_toArray, List.set_cons_zero, List.set_cons_succ]
        refine wpAnyH_take (i := 8) (v := ?v8b) rfl (by kernel_rfl) (by kernel_rfl) (by kernel_rfl) (fun _ _ _ h => h) (Or.inl ⟨by rfl, ?hy8b⟩) (by assumption) ?rest8b
        case hy8b => intro w' hSw; (try dsimp only at hSw); go_simp; first | done | with_reducible rfl
        try simp only [Act.put, List.getElem_toArray, List.getElem_cons_succ, List.getElem_cons_zero, List.setIfInBounds_toArray, List.set_cons_zero, List.set_cons_succ]
        refine wpAnyH_take (i := 9) (v := undef) rfl (by kernel_rfl) (by kernel_rfl) (by kernel_rfl) (fun _ _ _ h => h) (Or.inr ⟨by rfl, rfl⟩) (by assumption) ?_
        try simp only [Act.put, List.getElem_toArray, List.getElem_cons_succ, List.getElem_cons_zero, List.setIfInBounds_toArray, List.set_cons_zero, List.set_cons_succ]
        refine wpAnyH_take (i := 10) (v := undef) rfl (by kernel_rfl) (by kernel_rfl) (by kernel_rfl) (fun _ _ _ h => h) (Or.inr ⟨by rfl, rfl⟩) (by assumption) ?_
        try simp only [Act.put, List.getElem_toArray, List.getElem_cons_succ, List.getElem_cons_zero, List.setIfInBounds_toArray, List.set_cons_zero, List.set_cons_succ]
        refine wpAnyH_take (i := 11) (v := undef) rfl (by kernel_rfl) (by kernel_rfl) (by kernel_rfl) (fun _ _ _ h => h) (Or.inr ⟨by rfl, rfl⟩) (by assumption) ?_
        try simp only [Act.put, List.getElem_toArray, List.getElem_cons_succ, List.getElem_cons_zero, List.setIfInBounds_toArray, List.set_cons_zero, List.set_cons_succ]
        refine wpAnyH_take (i := 12) (v := undef) rfl (by kernel_rfl) (by kernel_rfl) (by kernel_rfl) (fun _ _ _ h => h) (Or.inr ⟨by rfl, rfl⟩) (by assumption) ?_
        try simp only [Act.put, List.getElem_toArray, List.getElem_cons_succ, List.getElem_cons_zero, List.setIfInBounds_toArray, List.set_cons_zero, List.set_cons_succ]
        refine wpAnyH_take (i := 13) (v := undef) rfl (by kernel_rfl) (by kernel_rfl) (by kernel_rfl) (fun _ _ _ h => h) (Or.inr ⟨by rfl, rfl⟩) (by assumption) ?_
        try simp only [Act.put, List.getElem_toArray, List.getElem_cons_succ, List.getElem_cons_zero, List.setIfInBounds_toArray, List.set_cons_zero, List.set_cons_succ]
        refine wpAnyH_take (i := 14) (v := undef) rfl (by kernel_rfl) (by kernel_rfl) (by kernel_rfl) (fun _ _ _ h => h) (Or.inr ⟨by rfl, rfl⟩) (by assumption) ?_
        try simp only [Act.put, List.getElem_toArray, List.getElem_cons_succ, List.getElem_cons_zero, List.setIfInBounds_toArray, List.set_cons_zero, List.set_cons_succ]
        refine wpAnyH_take (i := 15) (v := undef) rfl (by kernel_rfl) (by kernel_rfl) (by kernel_rfl) (fun _ _ _ h => h) (Or.inr ⟨by rfl, rfl⟩) (by assumption) ?_
        try simp only [Act.put, List.getElem_toArray, List.getElem_cons_succ, List.getElem_cons_zero, List.setIfInBounds_toArray, List.set_cons_zero, List.set_cons_succ]
        refine wpAnyH_take (i := 16) (v := undef) rfl (by kernel_rfl) (by kernel_rfl) (by kernel_rfl) (fun _ _ _ h => h) (Or.inr ⟨by rfl, rfl⟩) (by assumption) ?_
        try simp only [Act.put, List.getElem_toArray, List.getElem_cons_succ, List.getElem_cons_zero, List.setIfInBounds_toArray, List.set_cons_zero, List.set_cons_succ]
        refine wpAnyH_take (i := 17) (v := undef) rfl (by kernel_rfl) (by kernel_rfl) (by kernel_rfl) (fun _ _ _ h => h) (Or.inr ⟨by rfl, rfl⟩) (by assumption) ?_
        try simp only [Act.put, List.getElem_toArray, List.getElem_cons_succ, List.getElem_cons_zero, List.setIfInBounds_toArray, List.set_cons_zero, List.set_cons_succ]
        refine wpAnyH_take (i := 18) (v := undef) rfl (by kernel_rfl) (by kernel_rfl) (by kernel_rfl) (fun _ _ _ h => h) (Or.inr ⟨by rfl, rfl⟩) (by assumption) ?_
        try simp only [Act.put, List.getElem_toArray, List.getElem_cons_succ, List.getElem_cons_zero, List.setIfInBounds_toArray, List.set_cons_zero, List.set_cons_succ]
        refine wpAnyH_take (i := 19) (v := ?v19b) rfl (by kernel_rfl) (by kernel_rfl) (by kernel_rfl) (fun _ _ _ h => h) (Or.inl ⟨by rfl, ?hy19b⟩) (by assumption) ?rest19b
        case hy19b => intro w' hSw; (try dsimp only at hSw); go_simp; first | done | with_reducible rfl
        try simp only [Act.put, List.getElem_toArray, List.getElem_cons_succ, List.getElem_cons_zero, List.setIfInBounds_toArray, List.set_cons_zero, List.set_cons_succ]
        refine wpAnyH_take (i := 20) (v := ?v20b) rfl (by kernel_rfl) (by kernel_rfl) (by kernel_rfl) (fun _ _ _ h => h) (Or.inl ⟨by rfl, ?hy20b⟩) (by assumption) ?rest20b
        case hy20b => intro w' hSw; (try dsimp only at hSw); go_simp; first | done | with_reducible rfl
        try simp only [Act.put, List.getElem_toArray, List.getElem_cons_succ, List.getElem_cons_zero, List.setIfInBounds_toArray, List.set_cons_zero, List.set_cons_succ]
        refine wpAnyH_done (by kernel_rfl) ?_ _
        go_wp2_with fail
        go_region_held3 (fun W' => W'.cell? ⟨px, 0, none⟩ = some (P0 ps) ∧ W'.cell? ⟨px, 1, none⟩ = some (.int .i64 s.c))
          (first | exact HK2.out | exact HC2.out | exact HD2.out)
          (first | (go_at_call 74; rw [← HV2.out]; refine HM2.out.mono ?_; rintro e w9 ⟨rfl, rfl⟩))
        go_wp2_with fail
        refine HCUT.out.mono ?_
        rintro e w3 ⟨⟨x, ok, rfl⟩, O3, hs3, hc3⟩
        have HX3 : Hid (Blk w3 px [P0 ps, .int .i64 s'.c, .int .i64 s'.p] 96) := Go.Lib.hid (by rw [HSC.out.1, HSC.out.2]; exact hc3.blk HXO.out HX2.out)
        have HN3 := Go.Lib.hid (hc3.not HX2.out.lt HXO.out)
        have HS3 := Go.Lib.hid hs3
        have HC3 := Go.Lib.hid (((Chg.of_below HB1.out).below HB2.out).trans hc3)
        have HRR := Go.Lib.hid (HRP.out s' ⟨by rw [HSC.out.1]; exact hc1, by rw [HSC.out.1]; omega⟩ w3 O3 HX3.out HN3.out HS3.out)
        clear hs3 hc3
        go_wp2_with fail
        refine HRR.out.mono ?_
        rintro e w4 ⟨vo, O4, rfl, hk4, hs4, hc4⟩
        have HK4 := Go.Lib.hid hk4
        have HS4 := Go.Lib.hid hs4
        have HC4 := Go.Lib.hid (HC3.out.trans hc4)
        clear hk4 hs4 hc4
        go_wp2_with fail
        go_ret
        exact ⟨vo, O4, rfl, by rw [HRx.out]; exact HK4.out, by rw [HRx.out]; exact HS4.out, HC4.out⟩
      · have hR := hRr.out
        rw [if_neg hB, if_neg (fun h => hC h.1)] at hR
        have HRx := Go.Lib.hid hR
        clear hR
        have HRR := Go.Lib.hid (HRP.out s ⟨hc1, by omega⟩ V2 O HX2.out HXO.out HS2.out)
        generalize s.t.length = n1 at *
        generalize s.b.length = n3 at *
        go_enter Tryz.func113, Tryz.ntmps113
        go_wp2_with fail
        refine HTT.out.mono ?_
        rintro e w9 ⟨rfl, rfl⟩
        go_wp2_with fail
        have hg1 := HG1.out
        refine wp_region_held_drew (S := fun W' => W'.cell? ⟨px, 0, none⟩ = some (P0 ps) ∧ W'.cell? ⟨px, 1, none⟩ = some (.int .i64 s.c)) (by kernel_rfl) HD1.out (fun hHeld => ?_)
        refine wpAnyH_take (i := 0) (v := ?v0c) rfl (by kernel_rfl) (by kernel_rfl) (by kernel_rfl) (fun _ _ _ h => h) (Or.inl ⟨by rfl, ?hy0c⟩) (by assumption) ?rest0c
        case hy0c => intro w' hSw; (try dsimp only at hSw); go_simp; first | done | with_reducible rfl
        try simp only [Act.put, List.getElem_toArray, List.getElem_cons_succ, List.getElem_cons_zero, List.setIfInBounds_toArray, List.set_cons_zero, List.set_cons_succ]
        refine wpAnyH_take (i := 3) (v := ?v3c) rfl (by kernel_rfl) (by kernel_rfl) (by kernel_rfl) (fun _ _ _ h => h) (Or.inl ⟨by rfl, ?hy3c⟩) (by assumption) ?rest3c
        case hy3c => intro w' hSw; (try dsimp only at hSw); go_simp; first | done | with_reducible rfl
        try simp only [Act.put, List.getElem_toArray, List.getElem_cons_succ, List.getElem_cons_zero, List.setIfInBounds_toArray, List.set_cons_zero, List.set_cons_succ]
        refine wpAnyH_take (i := 4) (v := ?v4c) rfl (by kernel_rfl) (by kernel_rfl) (by kernel_rfl) (fun _ _ _ h => h) (Or.inl ⟨by rfl, ?hy4c⟩) (by assumption) ?rest4c
        case hy4c => intro w' hSw; (try dsimp only at hSw); go_simp; first | done | with_reducible rfl
        try simp only [Act.put, List.getElem_toArray, List.getElem_cons_succ, List.getElem_cons_zero, List.setIfInBounds_toArray, List.set_cons_zero, List.set_cons_succ]
        refine wpAnyH_take (i := 5) (v := ?v5c) rfl (by kernel_rfl) (by kernel_rfl) (by kernel_rfl) (fun _ _ _ h => h) (Or.inl ⟨by rfl, ?hy5c⟩) (by assumption) ?rest5c
        case hy5c => intro w' hSw; (try dsimp only at hSw); go_simp; first | done | with_reducible rfl
        try simp only [Act.put, List.getElem_toArray, List.getElem_cons_succ, List.getElem_cons_zero, List.setIfInBounds_toArray, List.set_cons_zero, List.set_cons_succ]
        refine wpAnyH_take (i := 6) (v := ?v6c) rfl (by kernel_rfl) (by kernel_rfl) (by kernel_rfl) (fun _ _ _ h => h) (Or.inl ⟨by rfl, ?hy6c⟩) (by assumption) ?rest6c
        case hy6c => intro w' hSw; (try dsimp only at hSw); go_simp; first | done | with_reducible rfl
        try simp only [Act.put, List.getElem_toArray, List.getElem_cons_succ, List.getElem_cons_zero, List.setIfInBounds_toArray, List.set_cons_zero, List.set_cons_succ]
        refine wpAnyH_ready (rs := [1]) (by kernel_rfl) (by simp) ?_
        refine AllReadyH.cons rfl (fun K hK => ?_) AllReadyH.nil
        go_simp
        refine hK.out _ _ HK1.out (fun hHeld => ?_)
        clear hK K
        try simp only [Act.put, List.getElem_toArray, List.getElem_cons_succ, List.getElem_cons_zero, List.setIfInBounds_toArray, List.set_cons_zero, List.set_cons_succ]
        refine wpAnyH_ready (rs := [2]) (by kernel_rfl) (by simp) ?_
        refine AllReadyH.cons rfl (fun K hK => ?_) AllReadyH.nil
        go_simp
        rw [← HV1.out]
        refine HM1.out.mono ?_
        rintro e w9 ⟨rfl, rfl⟩
        go_wp2_with fail
        refine hK.out _ _ HC1.out (fun hHeld => ?_)
        clear hK K
        try simp only [Act.put, List.getElem_toArray, List.getElem_cons_succ, List.getElem_cons_zero, List.setIfInBounds_toArray, List.set_cons_zero, List.set_cons_succ]
        refine wpAnyH_take (i := 7) (v := ?v7c) rfl (by kernel_rfl) (by kernel_rfl) (by kernel_rfl) (fun _ _ _ h => h) (Or.inl ⟨by rfl, ?hy7c⟩) (by assumption) ?rest7c
        case hy7c => intro w' hSw; (try dsimp only at hSw); go_simp; first | done | with_reducible rfl
        try simp only [Act.put, List.getElem_toArray, List.getElem_cons_succ, List.getElem_cons_zero, List.setIfInBounds_toArray, List.set_cons_zero, List.set_cons_succ]
        refine wpAnyH_take (i := 8) (v := ?v8c) rfl (by kernel_rfl) (by kernel_rfl) (by kernel_rfl) (fun _ _ _ h => h) (Or.inl ⟨by rfl, ?hy8c⟩) (by assumption) ?rest8c
        case hy8c => intro w' hSw; (try dsimp only at hSw); go_simp; first | done | with_reducible rfl
        try simp only [Act.put, List.getElem_toArray, List.getElem_cons_succ, List.getElem_cons_zero, List.setIfInBounds_toArray, List.set_cons_zero, List.set_cons_succ]
        refine wpAnyH_take (i := 9) (v := undef) rfl (by kernel_rfl) (by kernel_rfl) (by kernel_rfl) (fun _ _ _ h => h) (Or.inr ⟨by rfl, rfl⟩) (by assumption) ?_
        try simp only [Act.put, List.getElem_toArray, List.getElem_cons_succ, List.getElem_cons_zero, List.setIfInBounds_toArray, List.set_cons_zero, List.set_cons_succ]
        refine wpAnyH_take (i := 10) (v := undef) rfl (by kernel_rfl) (by kernel_rfl) (by kernel_rfl) (fun _ _ _ h => h) (Or.inr ⟨by rfl, rfl⟩) (by assumption) ?_
        try simp only [Act.put, List.getElem_toArray, List.getElem_cons_succ, List.getElem_cons_zero, List.setIfInBounds_toArray, List.set_cons_zero, List.set_cons_succ]
        refine wpAnyH_take (i := 11) (v := undef) rfl (by kernel_rfl) (by kernel_rfl) (by kernel_rfl) (fun _ _ _ h => h) (Or.inr ⟨by rfl, rfl⟩) (by assumption) ?_
        try simp only [Act.put, List.getElem_toArray, List.getElem_cons_succ, List.getElem_cons_zero, List.setIfInBounds_toArray, List.set_cons_zero, List.set_cons_succ]
        refine wpAnyH_take (i := 12) (v := undef) rfl (by kernel_rfl) (by kernel_rfl) (by kernel_rfl) (fun _ _ _ h => h) (Or.inr ⟨by rfl, rfl⟩) (by assumption) ?_
        try simp only [Act.put, List.getElem_toArray, List.getElem_cons_succ, List.getElem_cons_zero, List.setIfInBounds_toArray, List.set_cons_zero, List.set_cons_succ]
        refine wpAnyH_take (i := 13) (v := undef) rfl (by kernel_rfl) (by kernel_rfl) (by kernel_rfl) (fun _ _ _ h => h) (Or.inr ⟨by rfl, rfl⟩) (by assumption) ?_
        try simp only [Act.put, List.getElem_toArray, List.getElem_cons_succ, List.getElem_cons_zero, List.setIfInBounds_toArray, List.set_cons_zero, List.set_cons_succ]
        refine wpAnyH_take (i := 14) (v := undef) rfl (by kernel_rfl) (by kernel_rfl) (by kernel_rfl) (fun _ _ _ h => h) (Or.inr ⟨by rfl, rfl⟩) (by assumption) ?_
        try simp only [Act.put, List.getElem_toArray, List.getElem_cons_succ, List.getElem_cons_zero, List.setIfInBounds_toArray, List.set_cons_zero, List.set_cons_succ]
        refine wpAnyH_take (i := 15) (v := undef) rfl (by kernel_rfl) (by kernel_rfl) (by kernel_rfl) (fun _ _ _ h => h) (Or.inr ⟨by rfl, rfl⟩) (by assumption) ?_
        try simp only [Act.put, List.getElem_toArray, List.getElem_cons_succ, List.getElem_cons_zero, List.setIfInBounds_toArray, List.set_cons_zero, List.set_cons_succ]
        refine wpAnyH_take (i := 16) (v := undef) rfl (by kernel_rfl) (by kernel_rfl) (by kernel_rfl) (fun _ _ _ h => h) (Or.inr ⟨by rfl, rfl⟩) (by assumption) ?_
        try simp only [Act.put, List.getElem_toArray, List.getElem_cons_succ, List.getElem_cons_zero, List.setIfInBounds_toArray, List.set_cons_zero, List.set_cons_succ]
        refine wpAnyH_take (i := 17) (v := undef) rfl (by kernel_rfl) (by kernel_rfl) (by kernel_rfl) (fun _ _ _ h => h) (Or.inr ⟨by rfl, rfl⟩) (by assumption) ?_
        try simp only [Act.put, List.getElem_toArray, List.getElem_cons_succ, List.getElem_cons_zero, List.setIfInBounds_toArray, List.set_cons_zero, List.set_cons_succ]
        refine wpAnyH_take (i := 18) (v := undef) rfl (by kernel_rfl) (by kernel_rfl) (by kernel_rfl) (fun _ _ _ h => h) (Or.inr ⟨by rfl, rfl⟩) (by assumption) ?_
        try simp only [Act.put, List.getElem_toArray, List.getElem_cons_succ, List.getElem_cons_zero, List.setIfInBounds_toArray, List.set_cons_zero, List.set_cons_succ]
        refine wpAnyH_take (i := 19) (v := ?v19c) rfl (by kernel_rfl) (by kernel_rfl) (by kernel_rfl) (fun _ _ _ h => h) (Or.inl ⟨by rfl, ?hy19c⟩) (by assumption) ?rest19c
        case hy19c => intro w' hSw; (try dsimp only at hSw); go_simp; first | done | with_reducible rfl
        try simp only [Act.put, List.getElem_toArray, List.getElem_cons_succ, List.getElem_cons_zero, List.setIfInBounds_toArray, List.set_cons_zero, List.set_cons_succ]
        refine wpAnyH_take (i := 20) (v := ?v20c) rfl (by kernel_rfl) (by kernel_rfl) (by kernel_rfl) (fun _ _ _ h => h) (Or.inl ⟨by rfl, ?hy20c⟩) (by assumption) ?rest20c
        case hy20c => intro w' hSw; (try dsimp only at hSw); go_simp; first | done | with_reducible rfl
        try simp only [Act.put, List.getElem_toArray, List.getElem_cons_succ, List.getElem_cons_zero, List.setIfInBounds_toArray, List.set_cons_zero, List.set_cons_succ]
        refine wpAnyH_done (by kernel_rfl) ?_ _
        go_wp2_with fail
        go_region_held3 (fun W' => W'.cell? ⟨px, 0, none⟩ = some (P0 ps) ∧ W'.cell? ⟨px, 1, none⟩ = some (.int .i64 s.c))
          (first | exact HK2.out | exact HC2.out | exact HD2.out)
          (first | (go_at_call 74; rw [← HV2.out]; refine HM2.out.mono ?_; rintro e w9 ⟨rfl, rfl⟩))
        go_wp2_with fail
        refine HRR.out.mono ?_
        rintro e w4 ⟨vo, O4, rfl, hk4, hs4, hc4⟩
        have HK4 := Go.Lib.hid hk4
        have HS4 := Go.Lib.hid hs4
        have HC4 := Go.Lib.hid (((Chg.of_below HB1.out).below HB2.out).trans hc4)
        clear hk4 hs4 hc4
        go_wp2_with fail
        go_ret
        exact ⟨vo, O4, rfl, by rw [HRx.out]; exact HK4.out, by rw [HRx.out]; exact HS4.out, HC4.out⟩
end
end Go.Proofs.YtlakojncjldpbaaGreat
