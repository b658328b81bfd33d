/- The adaptive cache over a store: Admit. -/
import Derived.Test.YtlakojncjldpbaaGreatAca5
namespace Go.Proofs.YtlakojncjldpbaaGreat
open Go.RowKit Hop
set_option linter.unusedVariables false
set_option linter.unusedSimpArgs false
set_option maxRecDepth 100000
theorem evict_mem {s : AS} {f : Bool} {x : Int} (h : evok s f) (hx : x ∈ (lsA (evictA s f).1).flatten) : x ∈ (lsA s).flatten := by
  obtain ⟨c, q, t, u, b, d⟩ := s
  rcases evictA_cases _ f h with ⟨rfl, A, y, e1, e2⟩ | ⟨rfl, A, y, e1, e2⟩
  · simp only at e1
    subst e1
    rw [e2] at hx
    simp only [lsA, List.flatten_cons, List.flatten_nil, List.append_nil, List.mem_append, List.mem_cons, mem_wo] at hx ⊢
    rcases hx with hx | hx | (hx | hx) | hx
    · exact .inl (.inl hx)
    · exact .inr (.inl hx)
    · exact .inl (.inr (.inl hx))
    · exact .inr (.inr (.inl hx.1))
    · exact .inr (.inr (.inr hx))
  · simp only at e1
    subst e1
    rw [e2] at hx
    simp only [lsA, List.flatten_cons, List.flatten_nil, List.append_nil, List.mem_append, List.mem_cons, mem_wo] at hx ⊢
    rcases hx with hx | hx | hx | hx | hx
    · exact .inl hx
    · exact .inr (.inl (.inl hx))
    · exact .inr (.inr (.inl hx))
    · exact .inr (.inl (.inr (.inl hx)))
    · exact .inr (.inr (.inr hx.1))
theorem repl_mem {s : AS} {g : Bool} {x : Int} (hc : 1 ≤ s.c) (hx : x ∈ (lsA (replA s g).1).flatten) : x ∈ (lsA s).flatten := by
  unfold replA at hx
  split at hx
  · exact hx
  · rename_i h
    exact evict_mem (evok_first hc h) hx
theorem fresh_mem {s : AS} {x : Int} (hs : s.ok) (hx : x ∈ (lsA (freshA s).1).flatten) : x ∈ (lsA s).flatten := by
  have hc := hs.lo
  have hd : ∀ L : List Int, x ∈ L.dropLast → x ∈ L := fun L h => List.dropLast_subset _ h
  unfold freshA at hx
  split at hx
  · split at hx
    · have h := repl_mem (s := ⟨s.c, s.p, s.t, s.u, s.b.dropLast, s.d⟩) hc hx
      simp only [lsA, List.flatten_cons, List.flatten_nil, List.append_nil, List.mem_append] at h ⊢
      rcases h with h | h | h | h
      · exact .inl h
      · exact .inr (.inl h)
      · exact .inr (.inr (.inl (hd _ h)))
      · exact .inr (.inr (.inr h))
    · simp only [lsA, List.flatten_cons, List.flatten_nil, List.append_nil, List.mem_append] at hx ⊢
      rcases hx with h | h
      · exact .inl (hd _ h)
      · exact .inr h
  · split at hx
    · exact hx
    · split at hx
      · have h := repl_mem (s := ⟨s.c, s.p, s.t, s.u, s.b, s.d.dropLast⟩) hc hx
        simp only [lsA, List.flatten_cons, List.flatten_nil, List.append_nil, List.mem_append] at h ⊢
        rcases h with h | h | h | h
        · exact .inl h
        · exact .inr (.inl h)
        · exact .inr (.inr (.inl h))
        · exact .inr (.inr (.inr (hd _ h)))
      · exact repl_mem hc hx
section
variable {O : Nat → Prop} {p : Nat}
set_option maxHeartbeats 6400000 in
theorem aadmit_any (px : Nat) (s : AS) (k : Int) (w : World) (hk0 : 0 ≤ k) (hk1 : k < 18446744073709551616) (hs : s.ok) (hp : p < 49999) (H : Aca w px O s p) :
    Calls Tryz.prog 58 #[P0 px, .int .u64 k] w fun e w' => ∃ vo O' p', e = .returned vo ∧ KL w' vo (admitA s k).2 ∧ Aca w' px O' (admitA s k).1 p' ∧ Chg O O' w w' ∧ (p' : Int) ≤ max (p : Int) (2 * s.c) := by
  have HT : Hid (admitA s k = if k ∈ s.t ++ s.u then (s, []) else if k ∈ s.b then knownA s k false else if k ∈ s.d then knownA s k true else (⟨(freshA s).1.c, (freshA s).1.p, k :: wo (freshA s).1.t k, (freshA s).1.u, (freshA s).1.b, (freshA s).1.d⟩, (freshA s).2)) := Go.Lib.hid rfl
  have HE := Go.Lib.hid (ahas_any px k w hk0 hk1 H)
  have HH := Go.Lib.hid H
  have HOK := Go.Lib.hid hs
  clear H hs
  go_enter Tryz.func58, Tryz.ntmps58
  go_wp2_with fail
  refine HE.out.mono ?_
  by_cases hk : k ∈ s.t ++ s.u
  · have hd : decide (k ∈ s.t ++ s.u) = true := decide_eq_true hk
    rw [hd]
    rw [if_pos hk] at HT
    clear hd hk
    rintro e w1 ⟨rfl, hb⟩
    have HB := Go.Lib.hid hb
    clear hb
    go_wp2_with fail
    go_ret
    refine ⟨_, O, p, rfl, ?_, ?_, Chg.of_below HB.out, by omega⟩
    · rw [HT.out]; exact KL.nil _
    · rw [HT.out]; exact HH.out.keep HB.out
  have hd : decide (k ∈ s.t ++ s.u) = false := decide_eq_false hk
  rw [hd]
  rw [if_neg hk] at HT
  have hki : k ∉ s.t := fun h => hk (List.mem_append_left _ h)
  have hkm : k ∉ s.u := fun h => hk (List.mem_append_right _ h)
  clear hd hk
  rintro e w1 ⟨rfl, hb⟩
  obtain ⟨ps, O1, hx, hst, hn, hOO⟩ := HH.out.keep hb
  have c0 := hx.cell 0
  have c1 := hx.cell 1
  have c2 := hx.cell 2
  simp only [List.getElem?_cons_zero, List.getElem?_cons_succ] at c0 c1 c2
  have hlen := len_four hst.qok
  have HLI : Hid (∀ t : Int, (t = 2 ∨ t = 3) → Calls Tryz.prog 112 #[P0 ps, .int .i64 t] w1.drew fun e w' => e = .returned (.int .i64 (if t = 2 then s.b.length else s.d.length : Nat)) ∧ w1.drew = w') := Go.Lib.hid (fun t ht => by
    rcases ht with rfl | rfl
    · exact len_k 2 w1.drew (by simp [lsA]) (hst.keep (Below.refl _ _).drew)
    · exact len_k 3 w1.drew (by simp [lsA]) (hst.keep (Below.refl _ _).drew))
  have HS0 : Hid (w1.drew.cell? ⟨px, 0, none⟩ = some (P0 ps)) := Go.Lib.hid c0
  have hl2 : s.b.length < 50000 := by omega
  have hl3 : s.d.length < 50000 := by omega
  have HX := Go.Lib.hid hx
  have HST := Go.Lib.hid hst
  have HN := Go.Lib.hid hn
  have HOO := Go.Lib.hid hOO
  have HB := Go.Lib.hid hb
  have lx := hx.lt
  clear hb hx hst hn hOO hlen
  go_wp2_with fail
  go_region_held3 (fun W' => W'.cell? ⟨px, 0, none⟩ = some (P0 ps))
    (first | exact HS0.out)
    (first | (go_at_call 112; refine (HLI.out _ (by first | exact .inl rfl | exact .inr rfl)).mono ?_; rintro e w9 ⟨rfl, rfl⟩))
  obtain ⟨wd, hwd⟩ : ∃ wd, wd = w1.drew := ⟨_, rfl⟩
  have BD : Below w1.heap.size w1 wd := by rw [hwd]; exact (Below.refl _ _).drew
  rw [← hwd]
  have HXD := Go.Lib.hid (HX.out.keep BD)
  have HSD := Go.Lib.hid (HST.out.keep BD)
  have HBD := Go.Lib.hid (HB.out.trans (BD.mono HB.out.size))
  have d0 := HXD.out.cell 0
  simp only [List.getElem?_cons_zero, List.getElem?_cons_succ] at d0
  have hF : Calls Tryz.prog 56 #[P0 ps, .int .u64 k] wd fun e w' => ∃ (t : Int) (ok : Bool), e = .returned (.tuple #[.int .i64 t, .bool ok]) ∧ Below wd.heap.size wd w' ∧ ((ok = true ∧ ((t = 2 ∧ k ∈ s.b) ∨ (t = 3 ∧ k ∈ s.d))) ∨ (ok = false ∧ k ∉ s.b ∧ k ∉ s.d)) := by
    refine (find_k k wd hk0 hk1 HSD.out).mono ?_
    rintro e w' ⟨t, ok, rfl, hb, h⟩
    refine ⟨t, ok, rfl, hb, ?_⟩
    rcases h with ⟨h1, h2, h3⟩ | ⟨h1, h2, h3⟩
    · refine .inl ⟨h1, ?_⟩
      match t, h2, h3 with
      | 0, _, h3 => exact absurd (by simpa [lsA] using h3) hki
      | 1, _, h3 => exact absurd (by simpa [lsA] using h3) hkm
      | 2, _, h3 => exact .inl ⟨rfl, by simpa [lsA] using h3⟩
      | 3, _, h3 => exact .inr ⟨rfl, by simpa [lsA] using h3⟩
      | t + 4, h2, _ => simp [lsA] at h2; omega
    · exact .inr ⟨h1, fun h => h3 (by simp [lsA, h]), fun h => h3 (by simp [lsA, h])⟩
  have HF := Go.Lib.hid hF
  clear c0 c1 c2 hwd BD HX HST HB HLI HS0 hF
  go_wp2_with fail
  refine HF.out.mono ?_
  rintro e w2 ⟨q, ok, rfl, hb2, hcase⟩
  have HX2 := Go.Lib.hid (HXD.out.keep hb2)
  have HS2 := Go.Lib.hid (HSD.out.keep hb2)
  have HB2 := Go.Lib.hid (HBD.out.trans (hb2.mono HBD.out.size))
  have nd := nd_four HS2.out.qok
  have e0 := HX2.out.cell 0
  have e1 := HX2.out.cell 1
  have e2 := HX2.out.cell 2
  have f2 := HX2.out.frozen 2
  simp only [List.getElem?_cons_zero, List.getElem?_cons_succ] at e0 e1 e2
  have lx2 := HX2.out.lt
  clear hb2 d0 HXD HSD HBD
  rcases hcase with ⟨rfl, ⟨rfl, hkb⟩ | ⟨rfl, hkb⟩⟩ | ⟨rfl, hkb, hkd⟩
  · rw [if_pos hkb] at HT
    have hpos : 0 < s.b.length := List.length_pos_iff.2 (by rintro h; rw [h] at hkb; cases hkb)
    obtain ⟨kk1, kk2, kk3, kk4⟩ := knownA_ok (again := false) HOK.out (by simpa using hkb)
    have hls : (lsA s).map (fun L => wo L k) = lsA (knownS s k false) := by
      simp only [lsA, knownS, List.map_cons, List.map_nil, if_true, Bool.false_eq_true, if_false]
      rw [wo_id hki, wo_id hkm, wo_id (nd.bx k hkb)]
    have hmem : ∀ x ∈ (lsA (knownS s k false)).flatten, x ≠ k := by
      intro x hx
      rw [← hls] at hx
      obtain ⟨L, hL, hxL⟩ := List.mem_flatten.1 hx
      obtain ⟨L0, _, rfl⟩ := List.mem_map.1 hL
      exact (mem_wo.1 hxL).2
    have hfl : decide (k ∈ (lsA s).flatten) = true := decide_eq_true (by simp [lsA, hkb])
    have HRM := Go.Lib.hid (fun w' (h : Sta w' ps O1 (qN (lsA s)) p) => by
      have h' := remove_k k w' hk0 hk1 h
      rw [hls, hfl] at h'
      exact h')
    have HPV : Hid ((knownS s k false).p = min (s.p + max ((s.d.length : Int) / s.b.length) 1) s.c) := Go.Lib.hid rfl
    have hb0 := HOK.out.p0
    have hb1 := HOK.out.p1
    have hb2 := HOK.out.hi
    have hb3 := HOK.out.lo
    generalize hn1 : s.b.length = n1 at *
    generalize hn2 : s.d.length = n2 at *
    go_wp2_with fail
    go_region
    have hv : ∀ D : Int, 0 ≤ D → D ≤ 50000 → (if s.c < wrap64 (s.p + if wrap64 D < 1 then 1 else wrap64 D) then s.c else wrap64 (s.p + if wrap64 D < 1 then 1 else wrap64 D)) = min (s.p + max D 1) s.c := by
      intro D h0 h1
      rw [IntWalk.wrap64_in D ⟨by omega, by omega⟩]
      by_cases h : D < 1
      · simp only [if_pos h]
        rw [IntWalk.wrap64_in (s.p + 1) ⟨by omega, by omega⟩]
        split <;> omega
      · simp only [if_neg h]
        rw [IntWalk.wrap64_in (s.p + D) ⟨by omega, by omega⟩]
        split <;> omega
    have hD0 : 0 ≤ (n2 : Int) / n1 := Int.ediv_nonneg (by omega) (by omega)
    have hD1 : (n2 : Int) / n1 ≤ 50000 := by
      have := Int.ediv_le_self (a := (n2 : Int)) (n1 : Int) (by omega)
      omega
    rw [hv _ hD0 hD1, ← HPV.out]
    generalize hks : knownS s k false = ks at *
    obtain ⟨U, hU⟩ : ∃ U, U = (w2.setCell ⟨px, 2, none⟩ (.int .i64 ks.p)).drew := ⟨_, rfl⟩
    rw [← hU]
    have XU : Blk U px [P0 ps, .int .i64 ks.c, .int .i64 ks.p] 96 := by rw [hU, kk2]; exact HX2.out.set 2 (.int .i64 ks.p)
    have SU : Sta U ps O1 (qN (lsA s)) p := by
      rw [hU]
      exact (HS2.out.frame (own := fun k => k = px) ((Fr.refl (fun k => k = px) w2).setEq rfl _) (fun k hk e => HN.out (e ▸ hk))).keep (Below.refl _ _).drew
    have CU : Chg (fun k => k = px ∨ O1 k) (fun k => k = px ∨ O1 k) w U := by
      rw [hU]
      exact ((Chg.of_below HB2.out).trans ⟨(Fr.refl (fun k => k = px ∨ O1 k) w2).setEq (.inl rfl) _, fun k hk => .inl hk⟩).below (Below.refl _ _).drew
    have HXU := Go.Lib.hid XU
    have HCU := Go.Lib.hid CU
    have HRU := Go.Lib.hid (HRM.out U SU)
    have u0 := XU.cell 0
    simp only [List.getElem?_cons_zero, List.getElem?_cons_succ] at u0
    have lxU := XU.lt
    have HKK := Go.Lib.hid (⟨kk1, kk2, kk3, kk4⟩ : (knownA s k false).1.ok ∧ ks.c = s.c ∧ 0 ≤ ks.p ∧ ks.p ≤ s.c)
    have HMEM := Go.Lib.hid hmem
    have HKN : Hid (knownA s k false = (⟨(replA ks false).1.c, (replA ks false).1.p, (replA ks false).1.t, k :: wo (replA ks false).1.u k, (replA ks false).1.b, (replA ks false).1.d⟩, (replA ks false).2)) := Go.Lib.hid (by rw [← hks]; rfl)
    have hsum : ks.b.length + ks.d.length + 1 ≤ s.b.length + s.d.length ∧ ks.t = s.t ∧ ks.u = s.u := by
      rw [← hks]
      have := wo_mem_len hkb
      refine ⟨?_, rfl, rfl⟩
      simp only [knownS, if_true, Bool.false_eq_true, if_false]
      omega
    have HRLN := Go.Lib.hid (replA_len ks false (by omega) (by rw [hsum.2.1, hsum.2.2, kk2]; exact HOK.out.tu))
    have HSM := Go.Lib.hid hsum
    clear hv hD0 hD1 hU XU SU CU kk1 kk2 kk3 kk4 hls hmem hfl hks hkb nd hsum e0 e1 e2 f2
    go_wp2_with fail
    all_goals
      refine HRU.out.mono ?_
      rintro e w3 ⟨rfl, O3, hs3, hc3⟩
      have HX3 := Go.Lib.hid (hc3.blk HN.out HXU.out)
      have HN3 := Go.Lib.hid (hc3.not HXU.out.lt HN.out)
      have HC3 := Go.Lib.hid hc3
      have HRP := Go.Lib.hid (arepl_any (ps := ps) (O := O3) (p := p) px ks false w3 ⟨by rw [HKK.out.2.1]; omega, by rw [HKK.out.2.1]; omega⟩ HX3.out HN3.out hs3)
      clear hs3 hc3 u0
      go_wp2_with fail
      refine HRP.out.mono ?_
      rintro e w4 ⟨vo, O4, rfl, hk4, hs4, hc4⟩
      have HX4 := Go.Lib.hid (hc4.blk HN3.out HX3.out)
      have HN4 := Go.Lib.hid (hc4.not HX3.out.lt HN3.out)
      have g0 := HX4.out.cell 0
      simp only [List.getElem?_cons_zero, List.getElem?_cons_succ] at g0
      have HK4 := Go.Lib.hid hk4
      have HC4 := Go.Lib.hid (HC3.out.trans hc4)
      have HS4 := Go.Lib.hid hs4
      have hnk : k ∉ (lsA (replA ks false).1).flatten := fun h => HMEM.out k (repl_mem (by rw [HKK.out.2.1]; omega) h) rfl
      have HNK := Go.Lib.hid hnk
      have HPF := Go.Lib.hid (push_k 1 k w4 hk0 hk1 (by simp [lsA]) hp hnk hs4)
      clear hk4 hs4 hc4 hnk
      go_wp2_with fail
      refine HPF.out.mono ?_
      rintro e w5 ⟨rfl, O5, hs5, hc5⟩
      have HS5 := Go.Lib.hid hs5
      have HC5 := Go.Lib.hid hc5
      clear hs5 hc5
      go_wp2_with fail
      go_ret
      have hT := HT.out
      rw [HKN.out] at hT
      have hnu : k ∉ (replA ks false).1.u := fun h => HNK.out (by simp [lsA, h])
      rw [wo_id hnu] at hT
      obtain ⟨r1, r2, r3, r4⟩ := HRLN.out
      obtain ⟨m1, m2, m3⟩ := HSM.out
      have hal := HOK.out.al
      have hkc := HKK.out.2.1
      refine ⟨_, _, _, rfl, ?_, ⟨ps, O5, by rw [hT]; simp only [r1, r2]; exact HC5.out.blk HN4.out HX4.out, by rw [hT]; exact HS5.out, HC5.out.not HX4.out.lt HN4.out, rfl⟩, ?_, ?_⟩
      · rw [hT]; exact Row.frame HK4.out HC5.out.fr (HS4.out.kl HK4.out)
      · rw [HOO.out]; exact HCU.out.trans (chg_up px (HC4.out.trans HC5.out))
      · simp only [lsA, List.map_cons, List.map_nil, List.sum_cons, List.sum_nil]
        rw [m2, m3] at r4
        omega
  · rw [if_neg (fun h => nd.bx k h hkb), if_pos hkb] at HT
    have hpos : 0 < s.d.length := List.length_pos_iff.2 (by rintro h; rw [h] at hkb; cases hkb)
    obtain ⟨kk1, kk2, kk3, kk4⟩ := knownA_ok (again := true) HOK.out (by simpa using hkb)
    have hls : (lsA s).map (fun L => wo L k) = lsA (knownS s k true) := by
      simp only [lsA, knownS, List.map_cons, List.map_nil, if_true, Bool.false_eq_true, if_false]
      rw [wo_id hki, wo_id hkm, wo_id (fun h => nd.bx k h hkb)]
    have hmem : ∀ x ∈ (lsA (knownS s k true)).flatten, x ≠ k := by
      intro x hx
      rw [← hls] at hx
      obtain ⟨L, hL, hxL⟩ := List.mem_flatten.1 hx
      obtain ⟨L0, _, rfl⟩ := List.mem_map.1 hL
      exact (mem_wo.1 hxL).2
    have hfl : decide (k ∈ (lsA s).flatten) = true := decide_eq_true (by simp [lsA, hkb])
    have HRM := Go.Lib.hid (fun w' (h : Sta w' ps O1 (qN (lsA s)) p) => by
      have h' := remove_k k w' hk0 hk1 h
      rw [hls, hfl] at h'
      exact h')
    have HPV : Hid ((knownS s k true).p = max (s.p - max ((s.b.length : Int) / s.d.length) 1) 0) := Go.Lib.hid rfl
    have hb0 := HOK.out.p0
    have hb1 := HOK.out.p1
    have hb2 := HOK.out.hi
    have hb3 := HOK.out.lo
    generalize hn1 : s.b.length = n1 at *
    generalize hn2 : s.d.length = n2 at *
    go_wp2_with fail
    go_region
    have hv : ∀ D : Int, 0 ≤ D → D ≤ 50000 → (if wrap64 (s.p - if wrap64 D < 1 then 1 else wrap64 D) < 0 then 0 else wrap64 (s.p - if wrap64 D < 1 then 1 else wrap64 D)) = max (s.p - max D 1) 0 := by
      intro D h0 h1
      rw [IntWalk.wrap64_in D ⟨by omega, by omega⟩]
      by_cases h : D < 1
      · simp only [if_pos h]
        rw [IntWalk.wrap64_in (s.p - 1) ⟨by omega, by omega⟩]
        split <;> omega
      · simp only [if_neg h]
        rw [IntWalk.wrap64_in (s.p - D) ⟨by omega, by omega⟩]
        split <;> omega
    have hD0 : 0 ≤ (n1 : Int) / n2 := Int.ediv_nonneg (by omega) (by omega)
    have hD1 : (n1 : Int) / n2 ≤ 50000 := by
      have := Int.ediv_le_self (a := (n1 : Int)) (n2 : Int) (by omega)
      omega
    rw [hv _ hD0 hD1, ← HPV.out]
    generalize hks : knownS s k true = ks at *
    obtain ⟨U, hU⟩ : ∃ U, U = (w2.setCell ⟨px, 2, none⟩ (.int .i64 ks.p)).drew := ⟨_, rfl⟩
    rw [← hU]
    have XU : Blk U px [P0 ps, .int .i64 ks.c, .int .i64 ks.p] 96 := by rw [hU, kk2]; exact HX2.out.set 2 (.int .i64 ks.p)
    have SU : Sta U ps O1 (qN (lsA s)) p := by
      rw [hU]
      exact (HS2.out.frame (own := fun k => k = px) ((Fr.refl (fun k => k = px) w2).setEq rfl _) (fun k hk e => HN.out (e ▸ hk))).keep (Below.refl _ _).drew
    have CU : Chg (fun k => k = px ∨ O1 k) (fun k => k = px ∨ O1 k) w U := by
      rw [hU]
      exact ((Chg.of_below HB2.out).trans ⟨(Fr.refl (fun k => k = px ∨ O1 k) w2).setEq (.inl rfl) _, fun k hk => .inl hk⟩).below (Below.refl _ _).drew
    have HXU := Go.Lib.hid XU
    have HCU := Go.Lib.hid CU
    have HRU := Go.Lib.hid (HRM.out U SU)
    have u0 := XU.cell 0
    simp only [List.getElem?_cons_zero, List.getElem?_cons_succ] at u0
    have lxU := XU.lt
    have HKK := Go.Lib.hid (⟨kk1, kk2, kk3, kk4⟩ : (knownA s k true).1.ok ∧ ks.c = s.c ∧ 0 ≤ ks.p ∧ ks.p ≤ s.c)
    have HMEM := Go.Lib.hid hmem
    have HKN : Hid (knownA s k true = (⟨(replA ks true).1.c, (replA ks true).1.p, (replA ks true).1.t, k :: wo (replA ks true).1.u k, (replA ks true).1.b, (replA ks true).1.d⟩, (replA ks true).2)) := Go.Lib.hid (by rw [← hks]; rfl)
    have hsum : ks.b.length + ks.d.length + 1 ≤ s.b.length + s.d.length ∧ ks.t = s.t ∧ ks.u = s.u := by
      rw [← hks]
      have := wo_mem_len hkb
      refine ⟨?_, rfl, rfl⟩
      simp only [knownS, if_true, Bool.false_eq_true, if_false]
      omega
    have HRLN := Go.Lib.hid (replA_len ks true (by omega) (by rw [hsum.2.1, hsum.2.2, kk2]; exact HOK.out.tu))
    have HSM := Go.Lib.hid hsum
    clear hv hD0 hD1 hU XU SU CU kk1 kk2 kk3 kk4 hls hmem hfl hks hkb nd hsum e0 e1 e2 f2
    go_wp2_with fail
    all_goals
      refine HRU.out.mono ?_
      rintro e w3 ⟨rfl, O3, hs3, hc3⟩
      have HX3 := Go.Lib.hid (hc3.blk HN.out HXU.out)
      have HN3 := Go.Lib.hid (hc3.not HXU.out.lt HN.out)
      have HC3 := Go.Lib.hid hc3
      have HRP := Go.Lib.hid (arepl_any (ps := ps) (O := O3) (p := p) px ks true w3 ⟨by rw [HKK.out.2.1]; omega, by rw [HKK.out.2.1]; omega⟩ HX3.out HN3.out hs3)
      clear hs3 hc3 u0
      go_wp2_with fail
      refine HRP.out.mono ?_
      rintro e w4 ⟨vo, O4, rfl, hk4, hs4, hc4⟩
      have HX4 := Go.Lib.hid (hc4.blk HN3.out HX3.out)
      have HN4 := Go.Lib.hid (hc4.not HX3.out.lt HN3.out)
      have g0 := HX4.out.cell 0
      simp only [List.getElem?_cons_zero, List.getElem?_cons_succ] at g0
      have HK4 := Go.Lib.hid hk4
      have HC4 := Go.Lib.hid (HC3.out.trans hc4)
      have HS4 := Go.Lib.hid hs4
      have hnk : k ∉ (lsA (replA ks true).1).flatten := fun h => HMEM.out k (repl_mem (by rw [HKK.out.2.1]; omega) h) rfl
      have HNK := Go.Lib.hid hnk
      have HPF := Go.Lib.hid (push_k 1 k w4 hk0 hk1 (by simp [lsA]) hp hnk hs4)
      clear hk4 hs4 hc4 hnk
      go_wp2_with fail
      refine HPF.out.mono ?_
      rintro e w5 ⟨rfl, O5, hs5, hc5⟩
      have HS5 := Go.Lib.hid hs5
      have HC5 := Go.Lib.hid hc5
      clear hs5 hc5
      go_wp2_with fail
      go_ret
      have hT := HT.out
      rw [HKN.out] at hT
      have hnu : k ∉ (replA ks true).1.u := fun h => HNK.out (by simp [lsA, h])
      rw [wo_id hnu] at hT
      obtain ⟨r1, r2, r3, r4⟩ := HRLN.out
      obtain ⟨m1, m2, m3⟩ := HSM.out
      have hal := HOK.out.al
      have hkc := HKK.out.2.1
      refine ⟨_, _, _, rfl, ?_, ⟨ps, O5, by rw [hT]; simp only [r1, r2]; exact HC5.out.blk HN4.out HX4.out, by rw [hT]; exact HS5.out, HC5.out.not HX4.out.lt HN4.out, rfl⟩, ?_, ?_⟩
      · rw [hT]; exact Row.frame HK4.out HC5.out.fr (HS4.out.kl HK4.out)
      · rw [HOO.out]; exact HCU.out.trans (chg_up px (HC4.out.trans HC5.out))
      · simp only [lsA, List.map_cons, List.map_nil, List.sum_cons, List.sum_nil]
        rw [m2, m3] at r4
        omega
  · rw [if_neg hkb, if_neg hkd] at HT
    have HFR := Go.Lib.hid (afresh_any px s w2 HOK.out HX2.out HN.out HS2.out)
    obtain ⟨r1, r2, r3, r4⟩ := freshA_len s HOK.out
    have hnk : k ∉ (lsA (freshA s).1).flatten := fun h => by
      have h' := fresh_mem HOK.out h
      simp [lsA, hki, hkm, hkb, hkd] at h'
    have HNK := Go.Lib.hid hnk
    have HRL := Go.Lib.hid (⟨r1, r2, r4⟩ : (freshA s).1.c = s.c ∧ (freshA s).1.p = s.p ∧ ((freshA s).1.t.length : Int) + (freshA s).1.u.length + (freshA s).1.b.length + (freshA s).1.d.length ≤ 2 * s.c - 1)
    clear r1 r2 r3 r4 hnk hkb hkd nd
    generalize freshA s = R at *
    obtain ⟨⟨rc, rp, rt, ru, rb, rd⟩, rg⟩ := R
    simp only [lsA] at HFR HT HNK HRL
    go_wp2_with fail
    refine HFR.out.mono ?_
    rintro e w3 ⟨vo, O3, rfl, hk3, hs3, hc3⟩
    have HX3 := Go.Lib.hid (hc3.blk HN.out HX2.out)
    have HN3 := Go.Lib.hid (hc3.not HX2.out.lt HN.out)
    have g0 := HX3.out.cell 0
    simp only [List.getElem?_cons_zero, List.getElem?_cons_succ] at g0
    have HK3 := Go.Lib.hid hk3
    have HC3 := Go.Lib.hid hc3
    have HS3 := Go.Lib.hid hs3
    have HPF := Go.Lib.hid (push_k 0 k w3 hk0 hk1 (by simp) hp HNK.out hs3)
    clear hk3 hs3 hc3 e0 e1 e2 f2
    go_wp2_with fail
    refine HPF.out.mono ?_
    rintro e w4 ⟨rfl, O4, hs4, hc4⟩
    have HS4 := Go.Lib.hid hs4
    have HC4 := Go.Lib.hid hc4
    clear hs4 hc4
    go_wp2_with fail
    go_ret
    have hT := HT.out
    have hnt : k ∉ rt := fun h => HNK.out (by simp [h])
    rw [wo_id hnt] at hT
    obtain ⟨r1, r2, r4⟩ := HRL.out
    refine ⟨_, _, _, rfl, ?_, ⟨ps, O4, by rw [hT]; simp only [r1, r2]; exact HC4.out.blk HN3.out HX3.out, by rw [hT]; exact HS4.out, HC4.out.not HX3.out.lt HN3.out, rfl⟩, ?_, ?_⟩
    · rw [hT]; exact Row.frame HK3.out HC4.out.fr (HS3.out.kl HK3.out)
    · rw [HOO.out]; exact (Chg.of_below HB2.out).trans (chg_up px (HC3.out.trans HC4.out))
    · simp only [List.map_cons, List.map_nil, List.sum_cons, List.sum_nil]
      omega
end
end Go.Proofs.YtlakojncjldpbaaGreat
