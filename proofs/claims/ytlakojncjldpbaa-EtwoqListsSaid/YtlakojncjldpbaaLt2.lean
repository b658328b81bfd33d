/- The lists' two queues: forget, the closure of shrink. -/
import Derived.Test.YtlakojncjldpbaaLt1
namespace Go.Proofs.Ytlakojncjldpbaa
open Go.RowKit Hop
set_option linter.unusedVariables false
set_option linter.unusedSimpArgs false
set_option maxRecDepth 100000
theorem fall_f (v : Value) (L : List Int) (n : Int) (w : World) (hsm : L.length < 50000) (h0 : 0 ≤ n) (h1 : n ≤ 9223372036854775807) (h : KL w v L) :
    Calls Try.prog 157 #[v, .int .i64 n] w fun e w' => ∃ vo a1 n1 cap1, e = .returned (.tuple #[vo, .slice a1 n1 cap1]) ∧ KL w' (.slice a1 n1 cap1) (L.take n.toNat) ∧ (∀ b, (Value.slice a1 n1 cap1).ownBlock = some b → w.heap.size ≤ b) ∧ Below w.heap.size w w' :=
  (sqfall_any v L n w hsm h0 h1 h).mono fun e w' ⟨vo, v', e1, _, _, h2, h3, h4⟩ => by
    obtain ⟨a, cap, rfl⟩ := h2.form
    exact ⟨vo, a, _, cap, e1, h2, h3, h4⟩
set_option maxHeartbeats 3200000 in
theorem twforget_any (c : Int) (a1 a2 a3 : Option Addr) (n1 n2 n3 p1 p2 p3 : Nat) (o : List Int) (w : World) (hc0 : 1 ≤ c) (hc1 : c ≤ 1048576) (ho : o.length < 50000) (h : KL w (.slice a2 n2 p2) o) :
    Calls Try.prog 162 #[twV c (.slice a1 n1 p1) (.slice a2 n2 p2) (.slice a3 n3 p3)] w fun e w' => ∃ u n p, e = .returned (twV c (.slice a1 n1 p1) (.slice u n p) (.slice a3 n3 p3)) ∧ KL w' (.slice u n p) (o.take (c / 2).toNat) ∧ (∀ b, (Value.slice u n p).ownBlock = some b → w.heap.size ≤ b) ∧ Below w.heap.size w w' := by
  obtain ⟨W, hW⟩ : ∃ W, W = (w.alloc (.cells #[.int .i64 c, .slice a1 n1 p1, .slice a2 n2 p2, .slice a3 n3 p3] 66)).alloc (.cells #[.int .i64 0, .slice none 0 0, .slice none 0 0, .slice none 0 0] 66) := ⟨_, rfl⟩
  have b0 : Blk W w.heap.size (twC c (.slice a1 n1 p1) (.slice a2 n2 p2) (.slice a3 n3 p3)) 66 := by rw [hW]; exact (Blk.new0 w (twC c (.slice a1 n1 p1) (.slice a2 n2 p2) (.slice a3 n3 p3)) 66).alloc _
  have b1 : Blk W (w.heap.size + 1) (twC 0 (.slice none 0 0) (.slice none 0 0) (.slice none 0 0)) 66 := by
    have q := Blk.new0 (w.alloc (.cells #[.int .i64 c, .slice a1 n1 p1, .slice a2 n2 p2, .slice a3 n3 p3] 66)) (twC 0 (.slice none 0 0) (.slice none 0 0) (.slice none 0 0)) 66
    rw [World.size_alloc] at q
    rw [hW]; exact q
  have B0 : Below w.heap.size w W := by rw [hW]; exact ((Below.refl _ _).alloc (Nat.le_refl _) _).alloc (by simp) _
  have HF := Go.Lib.hid (fall_f _ o (c / 2) W ho (by omega) (by omega) (h.keep B0))
  have c0 := b0.cell 0
  have c2 := b0.cell 2
  simp only [List.getElem?_cons_zero, List.getElem?_cons_succ] at c0 c2
  have l0 := b0.lt
  have HW := Go.Lib.hid hW
  have Hb0 := Go.Lib.hid b0
  have Hb1 := Go.Lib.hid b1
  have HB0 := Go.Lib.hid B0
  have k0 : c.tdiv 2 = c / 2 := Int.tdiv_eq_ediv_of_nonneg (by omega)
  clear hW b0 b1 B0 h
  go_enter Try.func162, Try.ntmps162
  go_wp2_with fail
  rw [← HW.out]
  refine HF.out.mono ?_
  rintro e w1 ⟨vo, u, n, p, rfl, hk, hown, hb⟩
  have x0 := Hb0.out.keep hb
  have x1 := Hb1.out.keep hb
  obtain ⟨V, hV⟩ : ∃ V, V = w1.setCell ⟨w.heap.size, 2, none⟩ (.slice u n p) := ⟨_, rfl⟩
  have y0 : Blk V w.heap.size (twC c (.slice a1 n1 p1) (.slice u n p) (.slice a3 n3 p3)) 66 := by rw [hV]; exact x0.set 2 _
  have y1 : Blk V (w.heap.size + 1) (twC 0 (.slice none 0 0) (.slice none 0 0) (.slice none 0 0)) 66 := by rw [hV]; exact x1.set_ne (a := ⟨w.heap.size, 2, none⟩) (show w.heap.size + 1 ≠ w.heap.size by omega) _
  obtain ⟨V2, hV2⟩ : ∃ V2, V2 = (((V.setCell ⟨w.heap.size + 1, 0, none⟩ (.int .i64 c)).setCell ⟨w.heap.size + 1, 1, none⟩ (.slice a1 n1 p1)).setCell ⟨w.heap.size + 1, 2, none⟩ (.slice u n p)).setCell ⟨w.heap.size + 1, 3, none⟩ (.slice a3 n3 p3) := ⟨_, rfl⟩
  have z1 : Blk V2 (w.heap.size + 1) (twC c (.slice a1 n1 p1) (.slice u n p) (.slice a3 n3 p3)) 66 := by rw [hV2]; exact (((y1.set 0 _).set 1 _).set 2 _).set 3 _
  have F : Fr (fun k => k = w.heap.size ∨ k = w.heap.size + 1) w1 V2 := by
    rw [hV2, hV]
    exact (((((Fr.refl (fun k => k = w.heap.size ∨ k = w.heap.size + 1) w1).setEq (.inl rfl) _).setEq (.inr rfl) _).setEq (.inr rfl) _).setEq (.inr rfl) _).setEq (.inr rfl) _
  have l1 := Hb1.out.lt
  have HN := Go.Lib.hid (⟨hk.fr2 F (fun g hg e => by have := hown g hg; omega), fun g hg => by have := hown g hg; omega, below_fr (HB0.out.trans (hb.mono HB0.out.size)) F (Nat.le_refl _) (fun i hi => by omega)⟩ : KL V2 (.slice u n p) (o.take (c / 2).toNat) ∧ (∀ b, (Value.slice u n p).ownBlock = some b → w.heap.size ≤ b) ∧ Below w.heap.size w V2)
  have q0 := x0.cell 0
  have q1 := x0.cell 1
  have e0 := x0.cell 2
  have q3 := x0.cell 3
  have f0 := x0.frozen 2
  have t0 := x1.cell 0
  have t1 := x1.cell 1
  have t2 := x1.cell 2
  have t3 := x1.cell 3
  have h0 := x1.frozen 0
  have h1 := x1.frozen 1
  have h2 := x1.frozen 2
  have h3 := x1.frozen 3
  have mx1 := x1.lt
  have m0 := x0.lt
  simp only [List.getElem?_cons_zero, List.getElem?_cons_succ] at q0 q1 e0 q3 t0 t1 t2 t3
  have d0 := z1.cell 0
  have d1 := z1.cell 1
  have d2 := z1.cell 2
  have d3 := z1.cell 3
  simp only [List.getElem?_cons_zero, List.getElem?_cons_succ] at d0 d1 d2 d3
  have dl := z1.lt
  have HV := Go.Lib.hid hV
  have HV2 := Go.Lib.hid hV2
  rw [HV.out] at HV2
  clear hV hV2 x0 x1 y0 y1 z1 F l1 hk hown hb c0 c2 HF HV
  have hne : w.heap.size ≠ w.heap.size + 1 := by omega
  have hne2 : w.heap.size + 1 ≠ w.heap.size := by omega
  go_wp2_with fail
  rw [← HV2.out]
  refine bodyPost_ret (v := .agg #[.int .i64 c, .slice a1 n1 p1, .slice u n p, .slice a3 n3 p3]) (by simp [results, Try.results162, go_sem, d0, d1, d2, d3]) rfl ⟨u, n, p, rfl, HN.out⟩
theorem back_f (v : Value) (A : List Int) (x : Int) (w : World) (hsm : A.length < 100000) (h : KL w v (A ++ [x])) :
    Calls Try.prog 199 #[v] w fun e w' => ∃ a1 n1 cap1, e = .returned (.tuple #[.int .u64 x, .slice a1 n1 cap1, .bool true]) ∧ KL w' (.slice a1 n1 cap1) A ∧ (∀ b, (Value.slice a1 n1 cap1).ownBlock = some b → w.heap.size ≤ b) ∧ Below w.heap.size w w' :=
  (sqback_any v A x w hsm h).mono fun e w' ⟨v', e1, h2, h3, h4⟩ => by
    obtain ⟨a, cap, rfl⟩ := h2.form
    exact ⟨a, _, cap, e1, h2, h3, h4⟩
set_option maxHeartbeats 3200000 in
/-- One reclaimed: the last key goes to the list of those that are gone. -/
theorem twevict_any (bg : Nat) (v : Value) (A : List Int) (x : Int) (G : List Int) (ag : Option Addr) (ng pg : Nat) (w : World) (hA : A.length < 50000) (hG : G.length < 50000) (h : KL w v (A ++ [x])) (hg : KL w (.slice ag ng pg) G) (hb : Blk w bg [.slice ag ng pg] 26) :
    Calls Try.prog 198 #[v, .pointer (some ⟨bg, 0, none⟩)] w fun e w' => ∃ u n p u2 n2 p2, e = .returned (.slice u n p) ∧ KL w' (.slice u n p) A ∧ KL w' (.slice u2 n2 p2) (G ++ [x]) ∧ Blk w' bg [.slice u2 n2 p2] 26 ∧
      (∀ b, (Value.slice u n p).ownBlock = some b → w.heap.size ≤ b) ∧ (∀ b, (Value.slice u2 n2 p2).ownBlock = some b → ((Value.slice ag ng pg).ownBlock = some b ∨ w.heap.size ≤ b) ∧ (Value.slice u n p).ownBlock ≠ some b) ∧
      Fr (fun b => b = bg ∨ (Value.slice ag ng pg).ownBlock = some b) w w' := by
  have HB := Go.Lib.hid (back_f v A x w (by omega) h)
  have Hg := Go.Lib.hid hg
  have Hb := Go.Lib.hid hb
  have Hbl := Go.Lib.hid hb.lt
  have hne := Go.Lib.hid (hg.ne hb (by decide))
  have Hgl := Go.Lib.hid (fun b (q : (Value.slice ag ng pg).ownBlock = some b) => (hg.lt q).1)
  clear h hg hb
  go_enter Try.func198, Try.ntmps198
  go_wp2_with fail
  refine HB.out.mono ?_
  rintro e w1 ⟨u, n, p, rfl, hk, ho, hb1⟩
  have x1 := Hb.out.keep hb1
  have HK := Go.Lib.hid hk
  have HO := Go.Lib.hid ho
  have HB1 := Go.Lib.hid hb1
  have X1 := Go.Lib.hid x1
  have c0 := x1.cell 0
  simp only [List.getElem?_cons_zero] at c0
  have l0 := x1.lt
  have HR := Go.Lib.hid ((Hg.out.keep hb1).keep ((Below.refl w1.heap.size w1).alloc (Nat.le_refl _) (.cells #[.int .u64 x] 31)))
  have HRX := Go.Lib.hid ((⟨rfl, .inr ⟨w1.heap.size, 1, [.int .u64 x], rfl, Blk.new0 w1 [.int .u64 x] 31, Nat.le_refl _, by decide, by simp, rfl⟩⟩ : KL (w1.alloc (.cells #[.int .u64 x] 31)) (.slice (some ⟨w1.heap.size, 0, none⟩) 1 1) [x]))
  have hng : ng = G.length := by
    rcases Hg.out.2 with ⟨q, q2⟩ | ⟨g, cap, cs, q, _⟩
    · injection q with e1 e2 e3; omega
    · injection q with e1 e2 e3
  subst hng
  clear hk ho hb1 x1 HB
  go_wp2_with (at_builtin; refine wpList_append_two _ rfl (.tmp 13) (.tmp 15) 26 rfl 31 (.int .u64 0) 1 8 Try.underlying26 u64_info rfl (by decide) (.slice ag G.length pg) G.length (G.map (Value.int .u64)) rfl HR.out (.slice (some ⟨w1.heap.size, 0, none⟩) 1 1) 1 [.int .u64 x] rfl HRX.out (keys_one [x]) ?b1 ?b2 ?next)
  case b1 => unfold maxLen; omega
  case b2 => omega
  case next =>
    intro v2 w2 r1 r2 r3
    obtain ⟨u2, p2, rfl⟩ := row_form r1
    have A1 := (Below.refl w1.heap.size w1).alloc (Nat.le_refl _) (.cells #[.int .u64 x] 31)
    have za : (w1.alloc (.cells #[.int .u64 x] 31)).heap.size = w1.heap.size + 1 := by simp
    have z1 := HB1.out.size
    have hbl := Hbl.out
    have x2 : Blk w2 bg [.slice ag G.length pg] 26 := r2.blk (fun e => hne.out bg e rfl) (X1.out.keep A1)
    have ku : KL w2 (.slice u n p) A := (HK.out.keep A1).fr2 r2 (fun g hg e => by have q1 := HO.out g hg; have q2 := Hgl.out g e; omega)
    obtain ⟨W3, hW3⟩ : ∃ W3, W3 = w2.setCell ⟨bg, 0, none⟩ (.slice u2 (G.length + 1) p2) := ⟨_, rfl⟩
    have F3 : Fr (fun k => k = bg) w2 W3 := by rw [hW3]; exact (Fr.refl (fun k => k = bg) w2).setEq rfl _
    have x3 : Blk W3 bg [.slice u2 (G.length + 1) p2] 26 := by rw [hW3]; exact x2.set 0 _
    have hv2 : ∀ b, (Value.slice u2 (G.length + 1) p2).ownBlock = some b → ((Value.slice ag G.length pg).ownBlock = some b ∨ w.heap.size ≤ b) ∧ (Value.slice u n p).ownBlock ≠ some b := by
      intro b hb
      rcases r3 b hb with q | q
      · exact ⟨.inl q, fun e => by have q1 := HO.out b e; have q2 := Hgl.out b q; omega⟩
      · exact ⟨.inr (by omega), fun e => by have q1 := (HK.out.lt e).1; omega⟩
    have kg : KL W3 (.slice u2 (G.length + 1) p2) (G ++ [x]) := by
      have q : KL w2 (.slice u2 (G.length + 1) p2) (G ++ [x]) := by
        unfold KL
        rw [List.length_append, List.map_append]
        exact r1
      refine q.fr2 F3 (fun g hg e => ?_)
      subst e
      rcases r3 g hg with q | q
      · exact hne.out g q rfl
      · omega
    have ku3 : KL W3 (.slice u n p) A := ku.fr2 F3 (fun g hg e => by have q1 := HO.out g hg; omega)
    have FW : Fr (fun b => b = bg ∨ (Value.slice ag G.length pg).ownBlock = some b) w W3 := by
      have f1 : Fr (fun b => b = bg ∨ (Value.slice ag G.length pg).ownBlock = some b) w w1 := Fr.of_below HB1.out
      have f2 : Fr (fun b => b = bg ∨ (Value.slice ag G.length pg).ownBlock = some b) w (w1.alloc (.cells #[.int .u64 x] 31)) := Fr.of_below (HB1.out.trans (A1.mono z1))
      exact (f2.trans r2 (fun i e => .inl (.inr e))).trans F3 (fun i e => .inl (.inl e))
    have HN := Go.Lib.hid (⟨ku3, kg, x3, HO.out, hv2, FW⟩ : KL W3 (.slice u n p) A ∧ KL W3 (.slice u2 (G.length + 1) p2) (G ++ [x]) ∧ Blk W3 bg [.slice u2 (G.length + 1) p2] 26 ∧ (∀ b, (Value.slice u n p).ownBlock = some b → w.heap.size ≤ b) ∧ (∀ b, (Value.slice u2 (G.length + 1) p2).ownBlock = some b → ((Value.slice ag G.length pg).ownBlock = some b ∨ w.heap.size ≤ b) ∧ (Value.slice u n p).ownBlock ≠ some b) ∧ Fr (fun b => b = bg ∨ (Value.slice ag G.length pg).ownBlock = some b) w W3)
    have d0 := x2.cell 0
    have f0 := x2.frozen 0
    simp only [List.getElem?_cons_zero] at d0
    have dl := x2.lt
    have HW3 := Go.Lib.hid hW3
    clear hW3 F3 x2 x3 ku kg ku3 hv2 FW A1 r1 r2 r3
    go_wp2_with fail
    rw [← HW3.out]
    go_ret
    exact ⟨u, n, p, u2, G.length + 1, p2, rfl, HN.out⟩
end Go.Proofs.Ytlakojncjldpbaa
