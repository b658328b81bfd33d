/- The adaptive cache over a store: New of the lists, cut, many, demote. -/
import Derived.Test.YtlakojncjldpbaaGreatTa
import Derived.Deep.RegionHeld3
namespace Go.Proofs.YtlakojncjldpbaaGreat
open Go.RowKit Hop
set_option linter.unusedVariables false
set_option linter.unusedSimpArgs false
set_option maxRecDepth 100000
def lsA (s : AS) : List (List Int) := [s.t, s.u, s.b, s.d]
structure Nd4 (t u b d : List Int) : Prop where
  nt : t.Nodup
  nu : u.Nodup
  nb : b.Nodup
  nd : d.Nodup
  tx : ∀ x ∈ t, x ∉ u ∧ x ∉ b ∧ x ∉ d
  ux : ∀ x ∈ u, x ∉ b ∧ x ∉ d
  bx : ∀ x ∈ b, x ∉ d
theorem nd_four {t u b d : List Int} {p : Nat} (h : Qok (qN [t, u, b, d]) p) : Nd4 t u b d := by
  have := nd_qN h
  simp only [List.flatten_cons, List.flatten_nil, List.append_nil] at this
  obtain ⟨h1, h2, h3⟩ := List.nodup_append.1 this
  obtain ⟨h4, h5, h6⟩ := List.nodup_append.1 h2
  obtain ⟨h7, h8, h9⟩ := List.nodup_append.1 h5
  exact ⟨h1, h4, h7, h8, fun x hx => ⟨fun h => h3 x hx x (List.mem_append_left _ h) rfl, fun h => h3 x hx x (List.mem_append_right _ (List.mem_append_left _ h)) rfl, fun h => h3 x hx x (List.mem_append_right _ (List.mem_append_right _ h)) rfl⟩,
    fun x hx => ⟨fun h => h6 x hx x (List.mem_append_left _ h) rfl, fun h => h6 x hx x (List.mem_append_right _ h) rfl⟩, fun x hx h => h9 x hx x h rfl⟩
theorem ks_four {t u b d : List Int} {p : Nat} (h : Qok (qN [t, u, b, d]) p) {k : Int} (hk : k ∈ t ∨ k ∈ u ∨ k ∈ b ∨ k ∈ d) : 0 ≤ k ∧ k < 18446744073709551616 :=
  ks_qN h (by simpa using hk)
theorem len_four {t u b d : List Int} {p : Nat} (h : Qok (qN [t, u, b, d]) p) : t.length + u.length + b.length + d.length ≤ p ∧ p < 50000 := by
  have h1 := h.tot
  rw [tot_qN] at h1
  simp at h1
  exact ⟨by omega, h.p4⟩
theorem le_sum_mem {l : List Nat} {x : Nat} (h : x ∈ l) : x ≤ l.sum := by
  induction l with
  | nil => cases h
  | cons a r ih =>
    rw [List.sum_cons]
    rcases List.mem_cons.1 h with rfl | h
    · omega
    · have := ih h; omega
theorem arS_c (c p : Int) (v1 v2 v3 v4 : Value) (w : World) : (Instr.field 55 (.agg #[.int .i64 c, .int .i64 p, v1, v2, v3, v4]) 0).run Tryz.prog w = .ok (.int .i64 c) w := by kernel_rfl
set_option maxHeartbeats 800000 in
theorem arnew_any (c : Int) (w : World) :
    Calls Tryz.prog 23 #[.int .i64 c] w fun e w' => e = .returned (.agg #[.int .i64 (capF c), .int .i64 0, .slice none 0 0, .slice none 0 0, .slice none 0 0, .slice none 0 0]) ∧ Below w.heap.size w w' := by
  have HB := Go.Lib.hid ((Below.refl w.heap.size w).alloc (Nat.le_refl _) (.cells #[.int .i64 (capF c), .int .i64 0, .slice none 0 0, .slice none 0 0, .slice none 0 0, .slice none 0 0] 55))
  by_cases h1 : c < 1
  · have e : capF c = 1 := by unfold capF; rw [if_pos h1]
    rw [e] at HB ⊢
    clear e
    go_enter Tryz.func23, Tryz.ntmps23
    go_wp2_with fail
    all_goals first | (exfalso; omega) | exact bodyPost_ret (v := .agg #[.int .i64 1, .int .i64 0, .slice none 0 0, .slice none 0 0, .slice none 0 0, .slice none 0 0]) (by simp [results, Tryz.results23, go_sem]) rfl ⟨rfl, HB.out⟩
  · by_cases h2 : 1048576 < c
    · have e : capF c = 1048576 := by unfold capF; rw [if_neg h1, if_pos h2]
      rw [e] at HB ⊢
      clear e
      go_enter Tryz.func23, Tryz.ntmps23
      go_wp2_with fail
      all_goals first | (exfalso; omega) | exact bodyPost_ret (v := .agg #[.int .i64 1048576, .int .i64 0, .slice none 0 0, .slice none 0 0, .slice none 0 0, .slice none 0 0]) (by simp [results, Tryz.results23, go_sem]) rfl ⟨rfl, HB.out⟩
    · have e : capF c = c := by unfold capF; rw [if_neg h1, if_neg h2]
      rw [e] at HB ⊢
      clear e
      have hm : min (max c 1) 1048576 = c := by omega
      go_enter Tryz.func23, Tryz.ntmps23
      go_wp2_with fail
      all_goals first | (exfalso; omega) | exact bodyPost_ret (v := .agg #[.int .i64 c, .int .i64 0, .slice none 0 0, .slice none 0 0, .slice none 0 0, .slice none 0 0]) (by simp [results, Tryz.results23, go_sem]) rfl ⟨rfl, HB.out⟩ | (simp only [hm]; exact bodyPost_ret (v := .agg #[.int .i64 c, .int .i64 0, .slice none 0 0, .slice none 0 0, .slice none 0 0, .slice none 0 0]) (by simp [results, Tryz.results23, go_sem]) rfl ⟨rfl, HB.out⟩)
section
variable {ps : Nat} {O : Nat → Prop} {p : Nat} {Ls : List (List Int)}
set_option maxHeartbeats 800000 in
theorem acut_some (px : Nat) (c q : Int) (t : Nat) {A : List Int} {x : Int} (w : World) (ht : t < Ls.length) (h : Ls.getD t [] = A ++ [x]) (hx : Blk w px [P0 ps, .int .i64 c, .int .i64 q] 96) (hxo : ¬ O px) (H : Sta w ps O (qN Ls) p) :
    Calls Tryz.prog 125 #[P0 px, .int .i64 t] w fun e w' => e = .returned (.tuple #[.int .u64 x, .bool true]) ∧ ∃ O', Sta w' ps O' (qN (Ls.map (fun L => wo L x))) p ∧ Chg O O' w w' := by
  have hmem : x ∈ Ls.flatten := by
    refine List.mem_flatten.2 ⟨Ls.getD t [], ?_, by rw [h]; simp⟩
    rw [List.getD_eq_getElem?_getD, List.getElem?_eq_getElem ht]
    exact List.getElem_mem ht
  obtain ⟨hk0, hk1⟩ := ks_qN H.qok hmem
  have HBK := Go.Lib.hid (back_k t (A := A) (x := x) w ht h H)
  have HRM := Go.Lib.hid (fun w' (h : Sta w' ps O (qN Ls) p) => remove_k x w' hk0 hk1 h)
  have c0 := hx.cell 0
  simp only [List.getElem?_cons_zero, List.getElem?_cons_succ] at c0
  have HX := Go.Lib.hid hx
  have HH := Go.Lib.hid H
  clear hmem h hx hxo H
  go_enter Tryz.func125, Tryz.ntmps125
  go_wp2_with fail
  refine HBK.out.mono ?_
  rintro e w1 ⟨rfl, hb⟩
  have d0 := (HX.out.keep hb).cell 0
  simp only [List.getElem?_cons_zero, List.getElem?_cons_succ] at d0
  have HB := Go.Lib.hid hb
  clear hb c0
  go_wp2_with fail
  refine (HRM.out w1 (HH.out.keep HB.out)).mono ?_
  rintro e w2 ⟨rfl, O2, h3, h4⟩
  have H3 := Go.Lib.hid h3
  have H4 := Go.Lib.hid ((Chg.of_below HB.out).trans h4)
  clear h3 h4 d0
  go_wp2_with fail
  go_ret2
  exact ⟨rfl, O2, H3.out, H4.out⟩
set_option maxHeartbeats 800000 in
theorem acut_none (px : Nat) (c q : Int) (t : Nat) (w : World) (ht : t < Ls.length) (h : Ls.getD t [] = []) (hx : Blk w px [P0 ps, .int .i64 c, .int .i64 q] 96) (H : Sta w ps O (qN Ls) p) :
    Calls Tryz.prog 125 #[P0 px, .int .i64 t] w fun e w' => e = .returned (.tuple #[.int .u64 0, .bool false]) ∧ Below w.heap.size w w' := by
  have hB : Calls Tryz.prog 159 #[P0 ps, .int .i64 t] w fun e w' => e = .returned (.tuple #[.int .u64 0, .bool false]) ∧ Below w.heap.size w w' := by
    refine (back_sta t w (by rw [qN_len]; exact ht) H).mono ?_
    rintro e w' ⟨k, ok, rfl, hb, hh⟩
    rw [qN_getD, h] at hh
    rcases hh with ⟨h1, h2, _⟩ | ⟨_, l, e, h2, _⟩
    · rw [h1, h2]; exact ⟨rfl, hb⟩
    · simp at h2
  have HBK := Go.Lib.hid hB
  have c0 := hx.cell 0
  simp only [List.getElem?_cons_zero, List.getElem?_cons_succ] at c0
  clear hB h hx H
  go_enter Tryz.func125, Tryz.ntmps125
  go_wp2_with fail
  refine HBK.out.mono ?_
  rintro e w1 ⟨rfl, hb⟩
  have HB := Go.Lib.hid hb
  clear hb c0
  go_wp2_with fail
  go_ret2
  exact ⟨rfl, HB.out⟩
set_option maxHeartbeats 1600000 in
theorem amany_any (px : Nat) (c q : Int) (t1 t2 : Nat) (B : Nat) (w : World) (h1 : t1 < Ls.length) (h2 : t2 < Ls.length) (hB : Blk w B [.int .i64 t1, .int .i64 t2] 3) (hx : Blk w px [P0 ps, .int .i64 c, .int .i64 q] 96) (H : Sta w ps O (qN Ls) p) :
    Calls Tryz.prog 74 #[P0 px, .slice (some ⟨B, 0, none⟩) 2 2] w fun e w' => e = .returned (.int .i64 ((Ls.getD t1 []).length + (Ls.getD t2 []).length : Nat)) ∧ w = w' := by
  have hsz : ∀ t, (Ls.getD t []).length < 100000 := by
    intro t
    have h1 := H.qok.tot
    have h2 := H.qok.p4
    rw [tot_qN] at h1
    by_cases ht : t < Ls.length
    · have h3 : (Ls.getD t []).length ≤ (Ls.map List.length).sum := by
        refine le_sum_mem (List.mem_map.2 ⟨Ls.getD t [], ?_, rfl⟩)
        rw [List.getD_eq_getElem?_getD, List.getElem?_eq_getElem ht]
        exact List.getElem_mem ht
      omega
    · rw [List.getD_eq_getElem?_getD, List.getElem?_eq_none (by omega)]
      simp
  have b1 := hsz t1
  have b2 := hsz t2
  have HL1 := Go.Lib.hid (len_k t1 w h1 H)
  have HL2 := Go.Lib.hid (len_k t2 w h2 H)
  have c0 := hx.cell 0
  have d0 := hB.cell 0
  have d1 := hB.cell 1
  simp only [List.getElem?_cons_zero, List.getElem?_cons_succ] at c0 d0 d1
  have lb := hB.lt
  generalize hn1 : (Ls.getD t1 []).length = n1 at *
  generalize hn2 : (Ls.getD t2 []).length = n2 at *
  clear hsz h1 h2 hB hx H hn1 hn2
  go_enter Tryz.func74, Tryz.ntmps74
  go_wp2_with fail
  go_loopg [5, 10] 2 (fun g m i wr => wr = w ∧ ((g = 2 ∧ m = .int .i64 0 ∧ i = .int .i64 0) ∨ (g = 1 ∧ m = .int .i64 n1 ∧ i = .int .i64 1) ∨ (g = 0 ∧ m = .int .i64 ((n1 + n2 : Nat) : Int) ∧ i = .int .i64 2)))
  case atStart => exact ⟨rfl, .inl ⟨rfl, rfl, rfl⟩⟩
  case round =>
    obtain ⟨rfl, ⟨rfl, rfl, rfl⟩ | ⟨rfl, rfl, rfl⟩ | ⟨rfl, rfl, rfl⟩⟩ := hrel
    · go_wp2_with fail
      refine HL1.out.mono ?_
      rintro e w1 ⟨rfl, rfl⟩
      go_wp2_with fail
      go_roundg 1
      case rel => exact ⟨rfl, .inr (.inl ⟨rfl, rfl, rfl⟩)⟩
      case measure => omega
    · go_wp2_with fail
      refine HL2.out.mono ?_
      rintro e w1 ⟨rfl, rfl⟩
      go_wp2_with fail
      go_roundg 0
      case rel => exact ⟨rfl, .inr (.inr ⟨rfl, by congr 1, rfl⟩)⟩
      case measure => omega
    · go_wp2_with fail
      go_ret
      exact ⟨rfl, rfl⟩
end
end Go.Proofs.YtlakojncjldpbaaGreat

namespace Go.Proofs.YtlakojncjldpbaaGreat
open Go.RowKit Hop
set_option linter.unusedVariables false
set_option linter.unusedSimpArgs false
set_option maxRecDepth 100000
section
variable {ps : Nat} {O : Nat → Prop} {p : Nat}
/-- What an eviction does with the store: the last key of a queue, and it moved. -/
theorem evict_sta {s : AS} {f : Bool} {w : World} (hev : evok s f) (H : Sta w ps O (qN (lsA s)) p) :
    ∃ (k : Int) (t1 t2 : Nat) (A : List Int), (evictA s f).2 = [k] ∧ (t1 = if f then 0 else 1) ∧ (t2 = if f then 2 else 3) ∧ (0 ≤ k ∧ k < 18446744073709551616) ∧ (lsA s).getD t1 [] = A ++ [k] ∧ k ∈ (lsA s).flatten ∧
      (((lsA s).map (fun L => wo L k)).set t2 (k :: ((lsA s).map (fun L => wo L k)).getD t2 [])) = lsA (evictA s f).1 := by
  have hq := H.qok
  obtain ⟨c, q, t, u, b, d⟩ := s
  have nd := nd_four hq
  rcases evictA_cases _ f hev with ⟨rfl, A, x, e1, e2⟩ | ⟨rfl, A, x, e1, e2⟩
  · simp only at e1
    subst e1
    rw [e2]
    obtain ⟨n1, n2, n3⟩ := nd.tx x (by simp)
    refine ⟨x, 0, 2, A, rfl, rfl, rfl, ks_four hq (.inl (by simp)), rfl, by simp [lsA], ?_⟩
    simp only [lsA, List.map_cons, List.map_nil, List.set_cons_succ, List.set_cons_zero, List.getD_cons_succ, List.getD_cons_zero]
    rw [wo_last nd.nt, wo_id n1, wo_id n3]
  · simp only at e1
    subst e1
    rw [e2]
    obtain ⟨n1, n2⟩ := nd.ux x (by simp)
    have n3 : x ∉ t := fun h => (nd.tx x h).1 (by simp)
    refine ⟨x, 1, 3, A, rfl, rfl, rfl, ks_four hq (.inr (.inl (by simp))), rfl, by simp [lsA], ?_⟩
    simp only [lsA, List.map_cons, List.map_nil, List.set_cons_succ, List.set_cons_zero, List.getD_cons_succ, List.getD_cons_zero]
    rw [wo_last nd.nu, wo_id n1, wo_id n3]
set_option maxHeartbeats 3200000 in
theorem ademote_any (px : Nat) (c q : Int) (s : AS) (f : Bool) (w : World) (hev : evok s f) (hx : Blk w px [P0 ps, .int .i64 c, .int .i64 q] 96) (hxo : ¬ O px) (H : Sta w ps O (qN (lsA s)) p) :
    Calls Tryz.prog 124 #[P0 px, .bool f] w fun e w' => ∃ k, e = .returned (.int .u64 k) ∧ (evictA s f).2 = [k] ∧ ∃ O', Sta w' ps O' (qN (lsA (evictA s f).1)) p ∧ Chg O O' w w' := by
  obtain ⟨k, t1, t2, A, h2, ht1, ht2, ⟨hk0, hk1⟩, hA, hmem, hset⟩ := evict_sta hev H
  have hlt : t1 < (lsA s).length ∧ t2 < (lsA s).length := by
    rw [ht1, ht2]
    cases f <;> simp [lsA]
  have hF := fun w' => back_k (ps := ps) (Ls := lsA s) (O := O) (p := p) t1 (A := A) (x := k) w'
  have hM := fun w' h => move_k (ps := ps) (Ls := lsA s) (O := O) (p := p) t2 k w' hk0 hk1 hlt.2 hmem h
  rw [hset] at hM
  obtain ⟨E1, hE1⟩ : ∃ E1 : Int, E1 = (t1 : Int) := ⟨_, rfl⟩
  obtain ⟨E2, hE2⟩ : ∃ E2 : Int, E2 = (t2 : Int) := ⟨_, rfl⟩
  rw [← hE1] at hF
  rw [← hE2] at hM
  obtain ⟨W, hW⟩ : ∃ W, W = w.alloc (.cells #[.int .i64 E1, .int .i64 E2] 177) := ⟨_, rfl⟩
  have B0 : Below w.heap.size w W := by rw [hW]; exact (Below.refl w.heap.size w).alloc (Nat.le_refl _) _
  have b0 : Blk W w.heap.size [.int .i64 E1, .int .i64 E2] 177 := by rw [hW]; exact Blk.new0 w [.int .i64 E1, .int .i64 E2] 177
  have hBd : Below W.heap.size W W.drew := (Below.refl _ _).drew
  have S0 := H.keep B0
  have x0 := hx.keep B0
  have HBK := Go.Lib.hid (hF W.drew hlt.1 hA (S0.keep hBd))
  have HSS := Go.Lib.hid (fun W' (hb : Below W.heap.size W W') => (⟨(x0.keep hb).cell 0, (b0.keep hb).cell 0, (b0.keep hb).cell 1⟩ : W'.cell? ⟨px, 0, none⟩ = some (P0 ps) ∧ W'.cell? ⟨w.heap.size, 0, none⟩ = some (.int .i64 E1) ∧ W'.cell? ⟨w.heap.size, 1, none⟩ = some (.int .i64 E2)))
  have HMV := Go.Lib.hid (fun w' (hb : Below W.heap.size W w') => hM w' (S0.keep hb))
  have HW := Go.Lib.hid hW
  have HB0 := Go.Lib.hid B0
  have HBd := Go.Lib.hid hBd
  have H2 := Go.Lib.hid h2
  have lx := x0.lt
  have lb := b0.lt
  have hbs : ¬ O w.heap.size := fun ho => by have := H.lt ho; omega
  have HX0 := Go.Lib.hid x0
  have Hb0 := Go.Lib.hid b0
  have HBS := Go.Lib.hid hbs
  have HXO := Go.Lib.hid hxo
  clear h2 hlt hA hmem hset H hx hxo hW B0 b0 hBd S0 x0 hF hM hbs
  cases f
  · simp only [if_true, Bool.false_eq_true, if_false] at ht1 ht2
    subst ht1; subst ht2
    obtain rfl : E1 = 1 := hE1
    obtain rfl : E2 = 3 := hE2
    go_enter Tryz.func124, Tryz.ntmps124
    go_wp2_with fail
    rw [← HW.out]
    go_region_held3 (fun W' => W'.cell? ⟨px, 0, none⟩ = some (P0 ps) ∧ W'.cell? ⟨w.heap.size, 0, none⟩ = some (.int .i64 1) ∧ W'.cell? ⟨w.heap.size, 1, none⟩ = some (.int .i64 3))
      (first | with_reducible exact HSS.out _ q1 | exact HSS.out _ HBd.out)
      (first | (go_at_call 159; refine HBK.out.mono ?_; rintro e w1 ⟨rfl, hb1⟩; have q1 : Below W.heap.size W w1 := HBd.out.trans hb1))
    have HQ := Go.Lib.hid q1
    have qd : Below w1.heap.size w1 w1.drew := (Below.refl _ _).drew
    have HS1 := Go.Lib.hid (HSS.out _ (q1.trans (qd.mono q1.size)))
    have HM := Go.Lib.hid (HMV.out _ (q1.trans (qd.mono q1.size)))
    have l1 : px < w1.heap.size := Nat.lt_of_lt_of_le lx q1.size
    have l2 : w.heap.size < w1.heap.size := Nat.lt_of_lt_of_le lb q1.size
    have HXb := Go.Lib.hid (HX0.out.keep (q1.trans (qd.mono q1.size)))
    have HBb := Go.Lib.hid (Hb0.out.keep (q1.trans (qd.mono q1.size)))
    clear hb1 q1 qd
    go_wp2_with fail
    go_region_held3 (fun W' => W'.cell? ⟨px, 0, none⟩ = some (P0 ps) ∧ W'.cell? ⟨w.heap.size, 0, none⟩ = some (.int .i64 1) ∧ W'.cell? ⟨w.heap.size, 1, none⟩ = some (.int .i64 3))
      (first | exact hsx | exact HS1.out)
      (first | (go_at_call 116; refine HM.out.mono ?_; rintro e w2 ⟨rfl, O2, h3, h4⟩; have hsx : w2.cell? ⟨px, 0, none⟩ = some (P0 ps) ∧ w2.cell? ⟨w.heap.size, 0, none⟩ = some (.int .i64 1) ∧ w2.cell? ⟨w.heap.size, 1, none⟩ = some (.int .i64 3) := ⟨(h4.blk HXO.out HXb.out).cell 0, (h4.blk HBS.out HBb.out).cell 0, (h4.blk HBS.out HBb.out).cell 1⟩))
    have H3 := Go.Lib.hid h3
    have H4 := Go.Lib.hid ((Chg.of_below (HB0.out.trans ((HQ.out.trans ((Below.refl _ _).drew.mono HQ.out.size)).mono HB0.out.size))).trans h4)
    clear h3 h4 hsx
    go_wp2_with fail
    go_ret
    exact ⟨_, rfl, H2.out, O2, H3.out, H4.out⟩
  · simp only [if_true, Bool.false_eq_true, if_false] at ht1 ht2
    subst ht1; subst ht2
    obtain rfl : E1 = 0 := hE1
    obtain rfl : E2 = 2 := hE2
    go_enter Tryz.func124, Tryz.ntmps124
    go_wp2_with fail
    rw [← HW.out]
    go_region_held3 (fun W' => W'.cell? ⟨px, 0, none⟩ = some (P0 ps) ∧ W'.cell? ⟨w.heap.size, 0, none⟩ = some (.int .i64 0) ∧ W'.cell? ⟨w.heap.size, 1, none⟩ = some (.int .i64 2))
      (first | with_reducible exact HSS.out _ q1 | exact HSS.out _ HBd.out)
      (first | (go_at_call 159; refine HBK.out.mono ?_; rintro e w1 ⟨rfl, hb1⟩; have q1 : Below W.heap.size W w1 := HBd.out.trans hb1))
    have HQ := Go.Lib.hid q1
    have qd : Below w1.heap.size w1 w1.drew := (Below.refl _ _).drew
    have HS1 := Go.Lib.hid (HSS.out _ (q1.trans (qd.mono q1.size)))
    have HM := Go.Lib.hid (HMV.out _ (q1.trans (qd.mono q1.size)))
    have l1 : px < w1.heap.size := Nat.lt_of_lt_of_le lx q1.size
    have l2 : w.heap.size < w1.heap.size := Nat.lt_of_lt_of_le lb q1.size
    have HXb := Go.Lib.hid (HX0.out.keep (q1.trans (qd.mono q1.size)))
    have HBb := Go.Lib.hid (Hb0.out.keep (q1.trans (qd.mono q1.size)))
    clear hb1 q1 qd
    go_wp2_with fail
    go_region_held3 (fun W' => W'.cell? ⟨px, 0, none⟩ = some (P0 ps) ∧ W'.cell? ⟨w.heap.size, 0, none⟩ = some (.int .i64 0) ∧ W'.cell? ⟨w.heap.size, 1, none⟩ = some (.int .i64 2))
      (first | exact hsx | exact HS1.out)
      (first | (go_at_call 116; refine HM.out.mono ?_; rintro e w2 ⟨rfl, O2, h3, h4⟩; have hsx : w2.cell? ⟨px, 0, none⟩ = some (P0 ps) ∧ w2.cell? ⟨w.heap.size, 0, none⟩ = some (.int .i64 0) ∧ w2.cell? ⟨w.heap.size, 1, none⟩ = some (.int .i64 2) := ⟨(h4.blk HXO.out HXb.out).cell 0, (h4.blk HBS.out HBb.out).cell 0, (h4.blk HBS.out HBb.out).cell 1⟩))
    have H3 := Go.Lib.hid h3
    have H4 := Go.Lib.hid ((Chg.of_below (HB0.out.trans ((HQ.out.trans ((Below.refl _ _).drew.mono HQ.out.size)).mono HB0.out.size))).trans h4)
    clear h3 h4 hsx
    go_wp2_with fail
    go_ret
    exact ⟨_, rfl, H2.out, O2, H3.out, H4.out⟩
end
end Go.Proofs.YtlakojncjldpbaaGreat

namespace Go.Proofs.YtlakojncjldpbaaGreat
open Go.RowKit Hop
set_option linter.unusedVariables false
set_option linter.unusedSimpArgs false
set_option maxRecDepth 100000
theorem Sta.kl {w : World} {ps : Nat} {O : Nat → Prop} {Q : List (List En)} {p : Nat} {v : Value} {L : List Int} (H : Sta w ps O Q p) (h : KL w v L) : ∀ b, v.ownBlock = some b → ¬ O b := by
  intro b hb
  obtain ⟨_, cs, h'⟩ := Row.lt h hb
  exact H.typ h' (by decide)
section
variable {ps : Nat} {O : Nat → Prop} {p : Nat}
set_option maxHeartbeats 6400000 in
theorem arepl_any (px : Nat) (s : AS) (again : Bool) (w : World) (hc : 1 ≤ s.c ∧ s.c ≤ 1048576) (hx : Blk w px [P0 ps, .int .i64 s.c, .int .i64 s.p] 96) (hxo : ¬ O px) (H : Sta w ps O (qN (lsA s)) p) :
    Calls Tryz.prog 115 #[P0 px, .bool again] w fun e w' => ∃ vo O', e = .returned vo ∧ KL w' vo (replA s again).2 ∧ Sta w' ps O' (qN (lsA (replA s again).1)) p ∧ Chg O O' w w' := by
  obtain ⟨hc1, hc2⟩ := hc
  have hln : s.t.length < 100000 ∧ s.u.length < 100000 := by
    obtain ⟨h1, h2⟩ := len_four H.qok
    omega
  obtain ⟨hl1, hl2⟩ := hln
  obtain ⟨V, hV⟩ : ∃ V, V = (w.alloc (.cells #[.int .i64 0, .int .i64 1] 3)).drew := ⟨_, rfl⟩
  have BV : Below w.heap.size w V := by rw [hV]; exact ((Below.refl _ _).alloc (Nat.le_refl _) _).drew
  have bV : Blk V w.heap.size [.int .i64 0, .int .i64 1] 3 := by rw [hV]; exact Blk.new0 w [.int .i64 0, .int .i64 1] 3
  have xV := hx.keep BV
  have sV := H.keep BV
  have HMN : Hid (Calls Tryz.prog 74 #[P0 px, .slice (some ⟨w.heap.size, 0, none⟩) 2 2] V fun e w' => e = .returned (.int .i64 (s.t.length + s.u.length : Nat)) ∧ V = w') := Go.Lib.hid (amany_any (Ls := lsA s) px s.c s.p 0 1 w.heap.size V (by simp [lsA]) (by simp [lsA]) bV xV sV)
  have HL0 := Go.Lib.hid (len_k 0 V (by simp [lsA]) sV)
  have HL1 := Go.Lib.hid (len_k 1 V (by simp [lsA]) sV)
  simp only [lsA, List.getD_cons_succ, List.getD_cons_zero] at HL0 HL1
  have HSS := Go.Lib.hid (fun W' (hb : Below w.heap.size w W') => (⟨(hx.keep hb).cell 0, (hx.keep hb).cell 1, (hx.keep hb).cell 2⟩ : W'.cell? ⟨px, 0, none⟩ = some (P0 ps) ∧ W'.cell? ⟨px, 1, none⟩ = some (.int .i64 s.c) ∧ W'.cell? ⟨px, 2, none⟩ = some (.int .i64 s.p)))
  have HBd : Hid (Below w.heap.size w w.drew) := Go.Lib.hid (Below.refl _ _).drew
  have HR : Hid (replA s again = if (s.t.length : Int) + s.u.length < s.c then (s, []) else evictA s (firstA s again)) := Go.Lib.hid rfl
  have HF : Hid (firstA s again = (decide (s.u.length = 0) || (decide (0 < s.t.length) && (decide (s.p < (s.t.length : Int)) || (decide ((s.t.length : Int) = s.p) && again))))) := Go.Lib.hid rfl
  have HDM : Hid (¬ ((s.t.length : Int) + s.u.length < s.c) → ∀ F, F = firstA s again → Calls Tryz.prog 124 #[P0 px, .bool F] V fun e w' => ∃ k, e = .returned (.int .u64 k) ∧ (evictA s F).2 = [k] ∧ ∃ O', Sta w' ps O' (qN (lsA (evictA s F).1)) p ∧ Chg O O' V w') := Go.Lib.hid (fun h F hF => by
    rw [hF]; exact ademote_any px s.c s.p s (firstA s again) V (evok_first hc1 h) xV hxo sV)
  have lV := xV.lt
  have HV := Go.Lib.hid hV
  have HBV := Go.Lib.hid BV
  have HSV := Go.Lib.hid sV
  have d0 := xV.cell 0
  have d1 := xV.cell 1
  have d2 := xV.cell 2
  simp only [List.getElem?_cons_zero, List.getElem?_cons_succ] at d0 d1 d2
  have hxl := hx.lt
  have HSW : Hid ((w.alloc (.cells #[.int .i64 0, .int .i64 1] 3)).drew.cell? ⟨px, 0, none⟩ = some (P0 ps) ∧ (w.alloc (.cells #[.int .i64 0, .int .i64 1] 3)).drew.cell? ⟨px, 1, none⟩ = some (.int .i64 s.c) ∧ (w.alloc (.cells #[.int .i64 0, .int .i64 1] 3)).drew.cell? ⟨px, 2, none⟩ = some (.int .i64 s.p)) := by rw [← HV.out]; exact HSS.out _ BV
  generalize hn1 : s.t.length = n1 at *
  generalize hn2 : s.u.length = n2 at *
  generalize firstA s again = F at *
  generalize hP : s.p = P at *
  clear hP
  clear hV BV bV xV sV hx hxo H hn1 hn2
  go_enter Tryz.func115, Tryz.ntmps115
  go_wp2_with fail
  go_region_held3 (fun W' => W'.cell? ⟨px, 0, none⟩ = some (P0 ps) ∧ W'.cell? ⟨px, 1, none⟩ = some (.int .i64 s.c) ∧ W'.cell? ⟨px, 2, none⟩ = some (.int .i64 P))
    (first | exact HSW.out | exact HSS.out _ HBV.out | exact HSS.out _ HBd.out)
    (first | (go_at_call 74; rw [← HV.out]; refine HMN.out.mono ?_; rintro e w1 ⟨rfl, rfl⟩))
  by_cases hlt : (n1 : Int) + n2 < s.c
  · have HR := HR.out
    rw [if_pos hlt] at HR
    have HR := Go.Lib.hid HR
    go_wp2_with fail
    go_ret
    refine ⟨_, O, rfl, ?_, ?_, Chg.of_below HBV.out⟩
    · rw [HR.out]; exact KL.nil _
    · rw [HR.out]; exact HSV.out
  · have HR := HR.out
    rw [if_neg hlt] at HR
    have HR := Go.Lib.hid HR
    have HDM := Go.Lib.hid (HDM.out (by omega) F rfl)
    by_cases hA : 0 < n1 ∧ (P < (n1 : Int) ∨ ((n1 : Int) = P ∧ again = true))
    · have hF : F = true := by
        rw [HF.out]
        obtain ⟨h0, h | ⟨h1, h2⟩⟩ := hA
        · simp [h0, h]
        · simp [h0, h1, h2]
      subst hF
      obtain ⟨h0, h1 | ⟨h1, rfl⟩⟩ := hA
      · go_wp2_with fail
        refine HL0.out.mono ?_
        rintro e w1 ⟨rfl, rfl⟩
        go_wp2_with fail
        refine HDM.out.mono ?_
        rintro e w2 ⟨k, rfl, hk, O2, hs2, hc2⟩
        have HK := Go.Lib.hid hk
        have A2 := (Below.refl w2.heap.size w2).alloc (Nat.le_refl _) (.cells #[.int .u64 k] 32)
        have HS2 := Go.Lib.hid (hs2.keep A2)
        have HC2 := Go.Lib.hid (((Chg.of_below HBV.out).trans hc2).below A2)
        clear hk hs2 hc2 A2
        go_wp2_with fail
        go_ret
        refine ⟨_, O2, rfl, ?_, by rw [HR.out]; exact HS2.out, HC2.out⟩
        rw [HR.out, HK.out]
        exact KL.lit w2 k
      · subst h1
        have h2 : ¬ (n1 : Int) < n1 := by omega
        go_wp2_with fail
        refine HL0.out.mono ?_
        rintro e w1 ⟨rfl, rfl⟩
        go_wp2_with fail
        refine HDM.out.mono ?_
        rintro e w2 ⟨k, rfl, hk, O2, hs2, hc2⟩
        have HK := Go.Lib.hid hk
        have A2 := (Below.refl w2.heap.size w2).alloc (Nat.le_refl _) (.cells #[.int .u64 k] 32)
        have HS2 := Go.Lib.hid (hs2.keep A2)
        have HC2 := Go.Lib.hid (((Chg.of_below HBV.out).trans hc2).below A2)
        clear hk hs2 hc2 A2
        go_wp2_with fail
        go_ret
        refine ⟨_, O2, rfl, ?_, by rw [HR.out]; exact HS2.out, HC2.out⟩
        rw [HR.out, HK.out]
        exact KL.lit w2 k
    · by_cases h3 : n2 = 0
      · have hF : F = true := by
          rw [HF.out]
          simp [h3]
        have HQ3 : Hid (((n2 : Int) == 0) = true) := Go.Lib.hid (by simp [h3])
        subst hF
        by_cases h0 : 0 < n1
        · have h1 : ¬ P < (n1 : Int) := fun h => hA ⟨h0, .inl h⟩
          by_cases h2 : (n1 : Int) = P
          · subst h2
            have h4 : again = false := by cases again with | false => rfl | true => exact absurd ⟨h0, .inr ⟨rfl, rfl⟩⟩ hA
            subst h4
            clear hA h1
            have h1 : ¬ (n1 : Int) < n1 := by omega
            go_wp2_with fail
            refine HL0.out.mono ?_
            rintro e w1 ⟨rfl, rfl⟩
            go_wp2_with fail
            any_goals (first | (exfalso; omega) | skip)
            refine HL1.out.mono ?_
            rintro e w1 ⟨rfl, rfl⟩
            go_wp2_with fail
            try rw [HQ3.out]
            refine HDM.out.mono ?_
            rintro e w2 ⟨k, rfl, hk, O2, hs2, hc2⟩
            have HK := Go.Lib.hid hk
            have A2 := (Below.refl w2.heap.size w2).alloc (Nat.le_refl _) (.cells #[.int .u64 k] 32)
            have HS2 := Go.Lib.hid (hs2.keep A2)
            have HC2 := Go.Lib.hid (((Chg.of_below HBV.out).trans hc2).below A2)
            clear hk hs2 hc2 A2
            go_wp2_with fail
            go_ret
            refine ⟨_, O2, rfl, ?_, by rw [HR.out]; exact HS2.out, HC2.out⟩
            rw [HR.out, HK.out]
            exact KL.lit w2 k
          · clear hA
            go_wp2_with fail
            refine HL0.out.mono ?_
            rintro e w1 ⟨rfl, rfl⟩
            go_wp2_with fail
            any_goals (first | (exfalso; omega) | skip)
            refine HL1.out.mono ?_
            rintro e w1 ⟨rfl, rfl⟩
            go_wp2_with fail
            try rw [HQ3.out]
            refine HDM.out.mono ?_
            rintro e w2 ⟨k, rfl, hk, O2, hs2, hc2⟩
            have HK := Go.Lib.hid hk
            have A2 := (Below.refl w2.heap.size w2).alloc (Nat.le_refl _) (.cells #[.int .u64 k] 32)
            have HS2 := Go.Lib.hid (hs2.keep A2)
            have HC2 := Go.Lib.hid (((Chg.of_below HBV.out).trans hc2).below A2)
            clear hk hs2 hc2 A2
            go_wp2_with fail
            go_ret
            refine ⟨_, O2, rfl, ?_, by rw [HR.out]; exact HS2.out, HC2.out⟩
            rw [HR.out, HK.out]
            exact KL.lit w2 k
        · exfalso
          omega
      · have hF : F = false := by
          rw [HF.out]
          simp [h3]
          intro h0
          refine ⟨by by_cases h1 : P < (n1 : Int); exact absurd ⟨h0, .inl h1⟩ hA; omega, fun h1 => ?_⟩
          cases again with
          | false => rfl
          | true => exact absurd ⟨h0, .inr ⟨h1, rfl⟩⟩ hA
        have HQ3 : Hid (((n2 : Int) == 0) = false) := Go.Lib.hid (by simp [h3])
        subst hF
        by_cases h0 : 0 < n1
        · have h1 : ¬ P < (n1 : Int) := fun h => hA ⟨h0, .inl h⟩
          by_cases h2 : (n1 : Int) = P
          · subst h2
            have h4 : again = false := by cases again with | false => rfl | true => exact absurd ⟨h0, .inr ⟨rfl, rfl⟩⟩ hA
            subst h4
            clear hA h1
            have h1 : ¬ (n1 : Int) < n1 := by omega
            go_wp2_with fail
            refine HL0.out.mono ?_
            rintro e w1 ⟨rfl, rfl⟩
            go_wp2_with fail
            any_goals (first | (exfalso; omega) | skip)
            refine HL1.out.mono ?_
            rintro e w1 ⟨rfl, rfl⟩
            go_wp2_with fail
            try rw [HQ3.out]
            refine HDM.out.mono ?_
            rintro e w2 ⟨k, rfl, hk, O2, hs2, hc2⟩
            have HK := Go.Lib.hid hk
            have A2 := (Below.refl w2.heap.size w2).alloc (Nat.le_refl _) (.cells #[.int .u64 k] 32)
            have HS2 := Go.Lib.hid (hs2.keep A2)
            have HC2 := Go.Lib.hid (((Chg.of_below HBV.out).trans hc2).below A2)
            clear hk hs2 hc2 A2
            go_wp2_with fail
            go_ret
            refine ⟨_, O2, rfl, ?_, by rw [HR.out]; exact HS2.out, HC2.out⟩
            rw [HR.out, HK.out]
            exact KL.lit w2 k
          · clear hA
            go_wp2_with fail
            refine HL0.out.mono ?_
            rintro e w1 ⟨rfl, rfl⟩
            go_wp2_with fail
            any_goals (first | (exfalso; omega) | skip)
            refine HL1.out.mono ?_
            rintro e w1 ⟨rfl, rfl⟩
            go_wp2_with fail
            try rw [HQ3.out]
            refine HDM.out.mono ?_
            rintro e w2 ⟨k, rfl, hk, O2, hs2, hc2⟩
            have HK := Go.Lib.hid hk
            have A2 := (Below.refl w2.heap.size w2).alloc (Nat.le_refl _) (.cells #[.int .u64 k] 32)
            have HS2 := Go.Lib.hid (hs2.keep A2)
            have HC2 := Go.Lib.hid (((Chg.of_below HBV.out).trans hc2).below A2)
            clear hk hs2 hc2 A2
            go_wp2_with fail
            go_ret
            refine ⟨_, O2, rfl, ?_, by rw [HR.out]; exact HS2.out, HC2.out⟩
            rw [HR.out, HK.out]
            exact KL.lit w2 k
        · clear hA
          go_wp2_with fail
          refine HL0.out.mono ?_
          rintro e w1 ⟨rfl, rfl⟩
          go_wp2_with fail
          any_goals (first | (exfalso; omega) | skip)
          refine HL1.out.mono ?_
          rintro e w1 ⟨rfl, rfl⟩
          go_wp2_with fail
          try rw [HQ3.out]
          refine HDM.out.mono ?_
          rintro e w2 ⟨k, rfl, hk, O2, hs2, hc2⟩
          have HK := Go.Lib.hid hk
          have A2 := (Below.refl w2.heap.size w2).alloc (Nat.le_refl _) (.cells #[.int .u64 k] 32)
          have HS2 := Go.Lib.hid (hs2.keep A2)
          have HC2 := Go.Lib.hid (((Chg.of_below HBV.out).trans hc2).below A2)
          clear hk hs2 hc2 A2
          go_wp2_with fail
          go_ret
          refine ⟨_, O2, rfl, ?_, by rw [HR.out]; exact HS2.out, HC2.out⟩
          rw [HR.out, HK.out]
          exact KL.lit w2 k
end
end Go.Proofs.YtlakojncjldpbaaGreat
