/- The reference of two queues: shrink. -/
import Derived.Test.YtlakojncjldpbaaRef9
import Derived.Test.YtlakojncjldpbaaGApp
namespace Go.Proofs.Ytlakojncjldpbaa
open Go.RowKit Hop
set_option linter.unusedVariables false
set_option linter.unusedSimpArgs false
set_option maxRecDepth 100000
theorem recl_len {c : Int} {i o m : List Int} {j : Nat} (h : i.length + m.length = j + 1) : (reclT ⟨c, i, o, m⟩).1.c = c ∧ (reclT ⟨c, i, o, m⟩).1.i.length + (reclT ⟨c, i, o, m⟩).1.m.length = j ∧ (reclT ⟨c, i, o, m⟩).1.o.length ≤ max o.length (c / 2).toNat := by
  rcases recl_cases c i o m (by omega) with ⟨i', x, rfl, _, e⟩ | ⟨m', x, rfl, _, e⟩
  · rw [e]
    refine ⟨rfl, by simp at h ⊢; omega, ?_⟩
    simp only [List.length_take]
    omega
  · rw [e]
    exact ⟨rfl, by simp at h ⊢; omega, by simp only; omega⟩
theorem KL.frv {w w' : World} {v vo : Value} {L : List Int} (h : KL w v L) (hf : Fr (fun b => vo.ownBlock = some b) w w') (hn : ∀ b, vo.ownBlock = some b → v.ownBlock ≠ some b) : KL w' v L :=
  Row.frame h hf (fun b hb hv => hn b hv hb)
set_option maxHeartbeats 6400000 in
theorem q9shrink_any (c : Int) (v1 v2 v3 : Value) (i o m : List Int) (n : Int) (w : World) (hc : 1 ≤ c ∧ c ≤ 90000) (hn : 0 ≤ n ∧ n ≤ 90000) (hsm : o.length < 50000) (hsi : i.length + m.length < 50000) (h1 : KL w v1 i) (h2 : KL w v2 o) (h3 : KL w v3 m) :
    Calls Try.prog 183 #[.agg #[.int .i64 c, v1, v2, v3], .int .i64 n] w fun e w' => ∃ v1' v2' v3' vo, e = .returned (.tuple #[.agg #[.int .i64 c, v1', v2', v3'], vo]) ∧ KL w' v1' (shrT n (i.length + m.length) ⟨c, i, o, m⟩).1.i ∧ KL w' v2' (shrT n (i.length + m.length) ⟨c, i, o, m⟩).1.o ∧ KL w' v3' (shrT n (i.length + m.length) ⟨c, i, o, m⟩).1.m ∧ KL w' vo (shrT n (i.length + m.length) ⟨c, i, o, m⟩).2 ∧ Below w.heap.size w w' := by
  obtain ⟨hc0, hc1⟩ := hc
  obtain ⟨hn0, hn1⟩ := hn
  obtain ⟨a1, cap1, rfl⟩ := h1.form
  obtain ⟨a2, cap2, rfl⟩ := h2.form
  obtain ⟨a3, cap3, rfl⟩ := h3.form
  obtain ⟨R, hR⟩ : ∃ R, R = shrT n (i.length + m.length) ⟨c, i, o, m⟩ := ⟨_, rfl⟩
  rw [← hR]
  have HRR : Hid (shrT n (i.length + m.length) ⟨c, i, o, m⟩ = (R.1, R.2)) := Go.Lib.hid hR.symm
  clear hR
  obtain ⟨W, hW, b0, b1, B0⟩ := two_blocks w [.int .i64 c, .slice a1 i.length cap1, .slice a2 o.length cap2, .slice a3 m.length cap3] [.int .i64 0, .slice none 0 0, .slice none 0 0, .slice none 0 0] 60
  have K1 := Go.Lib.hid (h1.keep B0)
  have K2 := Go.Lib.hid (h2.keep B0)
  have K3 := Go.Lib.hid (h3.keep B0)
  have HB0 := Go.Lib.hid B0
  have HW := Go.Lib.hid hW
  have Hb0 := Go.Lib.hid b0
  have Hb1 := Go.Lib.hid b1
  generalize hg0 : i.length + m.length = g0 at *
  have HG0 := Go.Lib.hid hg0
  have HSM := Go.Lib.hid hsm
  clear hW B0 h1 h2 h3 b0 b1 hg0 hsm
  go_enter Try.func183, Try.ntmps183
  go_wp2_with fail
  rw [← HW.out]
  go_loopg [6] g0 (fun g vo wr => ∃ (i' o' m' gone G2 : List Int) (a1 a2 a3 : Option Addr) (q1 q2 q3 : Nat), i'.length + m'.length = g ∧ gone.length + g ≤ g0 ∧ o'.length < 50000 ∧ shrT n g ⟨c, i', o', m'⟩ = (R.1, G2) ∧ gone ++ G2 = R.2 ∧ KL wr vo gone ∧ (∀ b, vo.ownBlock = some b → w.heap.size ≤ b ∧ (Value.slice a1 i'.length q1).ownBlock ≠ some b ∧ (Value.slice a2 o'.length q2).ownBlock ≠ some b ∧ (Value.slice a3 m'.length q3).ownBlock ≠ some b) ∧ KL wr (.slice a1 i'.length q1) i' ∧ KL wr (.slice a2 o'.length q2) o' ∧ KL wr (.slice a3 m'.length q3) m' ∧ Blk wr w.heap.size [.int .i64 c, .slice a1 i'.length q1, .slice a2 o'.length q2, .slice a3 m'.length q3] 60 ∧ Blk wr (w.heap.size + 1) [.int .i64 0, .slice none 0 0, .slice none 0 0, .slice none 0 0] 60 ∧ Below w.heap.size w wr)
  case atStart => exact ⟨i, o, m, [], R.2, a1, a2, a3, cap1, cap2, cap3, HG0.out, by simp, HSM.out, HRR.out, rfl, KL.nil _, fun b hb => (by cases hb), K1.out, K2.out, K3.out, Hb0.out, Hb1.out, HB0.out⟩
  case round =>
    clear K1 K2 K3 Hb0 Hb1 HB0 HRR HG0
    obtain ⟨i', o', m', gone, G2, a1, a2, a3, q1, q2, q3, hg, hgl, hol, hsh, hgo, hko, hoo, k1, k2, k3, b0, b1, hbb⟩ := hrel
    have c0 := b0.cell 0
    have c1 := b0.cell 1
    have c2 := b0.cell 2
    have c3 := b0.cell 3
    have d0 := b1.cell 0
    have d1 := b1.cell 1
    have d2 := b1.cell 2
    have d3 := b1.cell 3
    have f0 := b1.frozen 0
    have f1 := b1.frozen 1
    have f2 := b1.frozen 2
    have f3 := b1.frozen 3
    simp only [List.getElem?_cons_zero, List.getElem?_cons_succ] at c0 c1 c2 c3 d0 d1 d2 d3
    have l0 := b0.lt
    have l1 := b1.lt
    have K1 := Go.Lib.hid k1
    have K2 := Go.Lib.hid k2
    have K3 := Go.Lib.hid k3
    have KO := Go.Lib.hid hko
    have OO := Go.Lib.hid hoo
    have Hb0 := Go.Lib.hid b0
    have Hb1 := Go.Lib.hid b1
    have HBB := Go.Lib.hid hbb
    have HSH := Go.Lib.hid hsh
    have HGO := Go.Lib.hid hgo
    have HG := Go.Lib.hid hg
    have HGL := Go.Lib.hid hgl
    have HOL := Go.Lib.hid hol
    by_cases hlt : n < gk
    · obtain ⟨j, rfl⟩ : ∃ j, gk = j + 1 := ⟨gk - 1, by omega⟩
      have hrl := recl_len (c := c) (o := o') hg
      have hgo' := shrT_go n j ⟨c, i', o', m'⟩ (by show ¬ ((i'.length : Int) + m'.length ≤ n); omega)
      rw [hgo'] at hsh
      have HRC := Go.Lib.hid (q9recl_any c _ _ _ i' o' m' wr ⟨hc0, by omega⟩ hol (by omega) k1 k2 k3)
      generalize reclT ⟨c, i', o', m'⟩ = r at *
      obtain ⟨⟨c', i2, o2, m2⟩, x⟩ := r
      simp only at hrl hsh HRC
      obtain ⟨hcc, hj, ho2⟩ := hrl
      obtain rfl : c = c' := hcc.symm
      injection hsh with e1 e2
      have HE1 := Go.Lib.hid e1
      have HE2 : Hid (gone ++ [x] ++ (shrT n j ⟨c, i2, o2, m2⟩).2 = R.2) := by
        rw [← hgo, ← e2]
        simp [Hid]
      have HJ := Go.Lib.hid hj
      have HO2 : Hid (o2.length < 50000) := Go.Lib.hid (by omega)
      have hcmp : n < (i'.length : Int) + m'.length := by omega
      have hgn : gone.length < 50000 := by omega
      have hib : i'.length < 100000 := by omega
      have hmb : m'.length < 100000 := by omega
      have hok : ∀ b, u6.ownBlock = some b → b < wr.heap.size := fun b hb => (Row.lt hko hb).1
      have HOK := Go.Lib.hid hok
      clear hgo hg hol hko hoo k1 k2 k3 b0 b1 hbb e1 e2 hcc hj ho2 hgo' hok d0 d1 d2 d3 f0 f1 f2 f3
      go_wp2_with fail
      refine HRC.out.mono ?_
      rintro e w2 ⟨v1, v2, v3, rfl, r1, r2, r3, ⟨ow1, ow2, ow3⟩, hb2⟩
      obtain ⟨a4, p4, rfl⟩ := r1.form
      obtain ⟨a5, p5, rfl⟩ := r2.form
      obtain ⟨a6, p6, rfl⟩ := r3.form
      have R1 := Go.Lib.hid r1
      have R2 := Go.Lib.hid r2
      have R3 := Go.Lib.hid r3
      have OW1 := Go.Lib.hid ow1
      have OW2 := Go.Lib.hid ow2
      have OW3 := Go.Lib.hid ow3
      have b0 := Hb0.out.keep hb2
      have b1 := Hb1.out.keep hb2
      have HB2 := Go.Lib.hid (HBB.out.trans (hb2.mono HBB.out.size))
      have Jb0 := Go.Lib.hid b0
      have Jb1 := Go.Lib.hid b1
      have KO2 := Go.Lib.hid (KO.out.keep hb2)
      have hsz := hb2.size
      have f0 := b0.frozen 0
      have f1 := b0.frozen 1
      have f2 := b0.frozen 2
      have f3 := b0.frozen 3
      have g0 := b0.cell 0
      have g1 := b0.cell 1
      have g2 := b0.cell 2
      have g3 := b0.cell 3
      simp only [List.getElem?_cons_zero, List.getElem?_cons_succ] at g0 g1 g2 g3
      have l2 := b0.lt
      have l3 := b1.lt
      have n12 : ¬ (w.heap.size = w2.heap.size) := by omega
      have n21 : ¬ (w2.heap.size = w.heap.size) := by omega
      clear r1 r2 r3 ow1 ow2 ow3 b0 b1 hb2 c0 c1 c2 c3
      generalize hl1 : i2.length = l4 at *
      generalize hl2 : o2.length = l5 at *
      generalize hl3 : m2.length = l6 at *
      have HL1 := Go.Lib.hid hl1
      have HL2 := Go.Lib.hid hl2
      have HL3 := Go.Lib.hid hl3
      clear hl1 hl2 hl3
      obtain ⟨W4, hW4⟩ : ∃ W4, W4 = (((w2.setCell ⟨w.heap.size, 0, none⟩ (.int .i64 c)).setCell ⟨w.heap.size, 1, none⟩ (.slice a4 l4 p4)).setCell ⟨w.heap.size, 2, none⟩ (.slice a5 l5 p5)).setCell ⟨w.heap.size, 3, none⟩ (.slice a6 l6 p6) := ⟨_, rfl⟩
      have F4 : Fr (fun k => k = w.heap.size ∨ k = w.heap.size + 1) w2 W4 := by rw [hW4]; repeat' (first | exact Fr.refl _ _ | refine Fr.setEq ?_ ?_ _ | exact .inl rfl | exact .inr rfl)
      have s4 : W4.heap.size = w2.heap.size := by rw [hW4]; simp
      have B4 : Below w.heap.size w W4 := by rw [hW4]; repeat' (first | exact HB2.out | refine below_set ?_ ?_ _ | omega)
      have b40 : Blk W4 w.heap.size [.int .i64 c, .slice a4 l4 p4, .slice a5 l5 p5, .slice a6 l6 p6] 60 := by rw [hW4]; exact (((Jb0.out.set 0 _).set 1 _).set 2 _).set 3 _
      have b41 : Blk W4 (w.heap.size + 1) [.int .i64 0, .slice none 0 0, .slice none 0 0, .slice none 0 0] 60 := by
        rw [hW4]
        exact (((Jb1.out.set_ne (a := ⟨w.heap.size, 0, none⟩) (by show w.heap.size + 1 ≠ w.heap.size; omega) _).set_ne (a := ⟨w.heap.size, 1, none⟩) (by show w.heap.size + 1 ≠ w.heap.size; omega) _).set_ne (a := ⟨w.heap.size, 2, none⟩) (by show w.heap.size + 1 ≠ w.heap.size; omega) _).set_ne (a := ⟨w.heap.size, 3, none⟩) (by show w.heap.size + 1 ≠ w.heap.size; omega) _
      obtain ⟨W5, hW5⟩ : ∃ W5, W5 = (W4.alloc (.cells #[.int .i64 c, .slice a4 l4 p4, .slice a5 l5 p5, .slice a6 l6 p6] 60)).alloc (.cells #[.int .u64 x] 31) := ⟨_, rfl⟩
      have B45 : Below W4.heap.size W4 W5 := by rw [hW5]; exact ((Below.refl _ _).alloc (Nat.le_refl _) _).alloc (by simp) _
      have b5 : Blk W5 (w2.heap.size + 1) [.int .u64 x] 31 := by rw [hW5, ← s4]; exact Blk.new1 W4 _ [.int .u64 x] 31
      have KO5 := Go.Lib.hid ((KO2.out.two Jb0.out Jb1.out (by decide) (by decide) F4).keep B45)
      have R15 := Go.Lib.hid ((R1.out.two Jb0.out Jb1.out (by decide) (by decide) F4).keep B45)
      have R25 := Go.Lib.hid ((R2.out.two Jb0.out Jb1.out (by decide) (by decide) F4).keep B45)
      have R35 := Go.Lib.hid ((R3.out.two Jb0.out Jb1.out (by decide) (by decide) F4).keep B45)
      have Jb05 := Go.Lib.hid (b40.keep B45)
      have Jb15 := Go.Lib.hid (b41.keep B45)
      have HB5 := Go.Lib.hid (B4.trans (B45.mono B4.size))
      have Jb5 := Go.Lib.hid b5
      have HW4 := Go.Lib.hid hW4
      have HW5 := Go.Lib.hid hW5
      have hs5 : w2.heap.size + 1 < W5.heap.size := b5.lt
      clear F4 B4 b40 b41 B45 b5 hW4 hW5 s4
      go_wp2_with (at_builtin; rw [← HW4.out, ← HW5.out]; refine wpList_append_row _ rfl (.tmp 24) (.tmp 26) 26 rfl 31 (.int .u64 0) 1 8 Try.underlying26 u64_info rfl (by decide) _ _ _ rfl KO5.out ⟨w2.heap.size + 1, 0, none⟩ 1 1 [.int .u64 x] rfl (by decide) rfl ?c1 ?c2 ?b1 ?b2 ?next)
      case c1 => intro j u hu; match j, hu with | 0, hu => simp at hu; subst hu; exact Jb5.out.cell 0
      case c2 => intro u hu; simp at hu; subst hu; rfl
      case b1 => unfold maxLen; omega
      case b2 => omega
      case next =>
        intro g' cap' w3 hr3 hf3 hg3
        have hs1 : ∀ b, u6.ownBlock = some b → (Value.slice a4 l4 p4).ownBlock ≠ some b ∧ (Value.slice a5 l5 p5).ownBlock ≠ some b ∧ (Value.slice a6 l6 p6).ownBlock ≠ some b := by
          intro b hb
          have hlt := HOK.out b hb
          obtain ⟨_, o1, o2, o3⟩ := OO.out b hb
          refine ⟨fun h => ?_, fun h => ?_, fun h => ?_⟩
          · rcases OW1.out b h with h | h
            · exact o1 h
            · omega
          · rcases OW2.out b h with h | h
            · exact o2 h
            · omega
          · rcases OW3.out b h with h | h
            · exact o3 h
            · omega
        have k1 := R15.out.frv hf3 (fun b hb => (hs1 b hb).1)
        have k2 := R25.out.frv hf3 (fun b hb => (hs1 b hb).2.1)
        have k3 := R35.out.frv hf3 (fun b hb => (hs1 b hb).2.2)
        have b0 := hf3.blk (fun hb => KL.ne KO5.out Jb05.out (by decide) _ hb rfl) Jb05.out
        have b1 := hf3.blk (fun hb => KL.ne KO5.out Jb15.out (by decide) _ hb rfl) Jb15.out
        have K4 : KL w3 (.slice (some ⟨g', 0, none⟩) (gone.length + 1) cap') (gone ++ [x]) := by
          unfold KL
          rw [List.map_append, List.length_append]
          exact hr3
        have B6 := below_fr HB5.out hf3 (by have := hsz; have := l0; omega) (fun b hb => (OO.out b hb).1)
        have O4 : ∀ b, (Value.slice (some ⟨g', 0, none⟩) (gone.length + 1) cap').ownBlock = some b → w.heap.size ≤ b ∧ (Value.slice a4 l4 p4).ownBlock ≠ some b ∧ (Value.slice a5 l5 p5).ownBlock ≠ some b ∧ (Value.slice a6 l6 p6).ownBlock ≠ some b := by
          intro b hb
          have e : g' = b := by simpa [Value.ownBlock] using hb
          subst e
          rcases hg3 with h | h
          · exact ⟨(OO.out _ h).1, hs1 _ h⟩
          · refine ⟨by omega, fun h' => ?_, fun h' => ?_, fun h' => ?_⟩
            · have := (Row.lt R15.out h').1; omega
            · have := (Row.lt R25.out h').1; omega
            · have := (Row.lt R35.out h').1; omega
        have k1' := Go.Lib.hid k1
        have k2' := Go.Lib.hid k2
        have k3' := Go.Lib.hid k3
        have b0' := Go.Lib.hid b0
        have b1' := Go.Lib.hid b1
        have K4' := Go.Lib.hid K4
        have O4' := Go.Lib.hid O4
        have B6' := Go.Lib.hid B6
        clear hs1 k1 k2 k3 b0 b1 K4 O4 B6 hr3 hf3 hg3
        go_wp2_with fail
        go_roundg j
        case rel =>
          have e1 := HL1.out
          have e2 := HL2.out
          have e3 := HL3.out
          subst e1; subst e2; subst e3
          exact ⟨i2, o2, m2, gone ++ [x], (shrT n j ⟨c, i2, o2, m2⟩).2, a4, a5, a6, p4, p5, p6, HJ.out, by have := HGL.out; simp; omega, HO2.out, by rw [← HE1.out], HE2.out, K4'.out, O4'.out, k1'.out, k2'.out, k3'.out, b0'.out, b1'.out, B6'.out⟩
        case measure => omega
    · have hse := shrT_end n gk c i' o' m' (by omega)
      rw [hsh] at hse
      injection hse with e1 e2
      have HE1 := Go.Lib.hid e1
      have HE2 : Hid (gone = R.2) := by
        rw [e2, List.append_nil] at hgo
        exact hgo
      have hle : ¬ (n < (i'.length : Int) + m'.length) := by omega
      obtain ⟨ao, capo, rfl⟩ := hko.form
      clear hsh hgo hg hgl hol hko hoo k1 k2 k3 b0 b1 hbb e1 e2 hlt
      generalize hl1 : i'.length = l1 at *
      generalize hl2 : o'.length = l2 at *
      generalize hl3 : m'.length = l3 at *
      generalize hl4 : gone.length = l4 at *
      clear hl1 hl2 hl3 hl4
      go_wp2_with fail
      refine bodyPost_ret (v := .tuple #[.agg #[.int .i64 c, .slice a1 l1 q1, .slice a2 l2 q2, .slice a3 l3 q3], .slice ao l4 capo]) (by simp [results, Try.results183, go_sem, d0, d1, d2, d3]) rfl ⟨_, _, _, _, rfl, ?_, ?_, ?_, ?_, ?_⟩
      · rw [HE1.out]
        exact K1.out.two Hb0.out Hb1.out (by decide) (by decide) (by repeat' (first | exact Fr.refl _ _ | refine Fr.setEq ?_ ?_ _ | exact .inl rfl | exact .inr rfl))
      · rw [HE1.out]
        exact K2.out.two Hb0.out Hb1.out (by decide) (by decide) (by repeat' (first | exact Fr.refl _ _ | refine Fr.setEq ?_ ?_ _ | exact .inl rfl | exact .inr rfl))
      · rw [HE1.out]
        exact K3.out.two Hb0.out Hb1.out (by decide) (by decide) (by repeat' (first | exact Fr.refl _ _ | refine Fr.setEq ?_ ?_ _ | exact .inl rfl | exact .inr rfl))
      · rw [← HE2.out]
        exact KO.out.two Hb0.out Hb1.out (by decide) (by decide) (by repeat' (first | exact Fr.refl _ _ | refine Fr.setEq ?_ ?_ _ | exact .inl rfl | exact .inr rfl))
      · repeat' (first | exact HBB.out | refine below_set ?_ ?_ _ | omega)
end Go.Proofs.Ytlakojncjldpbaa

namespace Go.Proofs.Ytlakojncjldpbaa
open Go.RowKit Hop
set_option linter.unusedVariables false
set_option linter.unusedSimpArgs false
set_option maxRecDepth 100000
/-- Behind a store into the first of two blocks. -/
theorem st_set {w : World} {A : Nat} {cs cs' : List Value} {T : Nat} (b0 : Blk w A cs T) (b1 : Blk w (A + 1) cs' T) (hT : 31 ≠ T) (j : Nat) (v : Value) :
    ∃ W, W = w.setCell ⟨A, j, none⟩ v ∧ Blk W A (cs.set j v) T ∧ Blk W (A + 1) cs' T ∧ (∀ u L, KL w u L → KL W u L) ∧ (∀ (B : Nat) (a : World), B ≤ A → Below B a w → Below B a W) ∧ W.heap.size = w.heap.size :=
  ⟨_, rfl, b0.set j v, b1.set_ne (a := ⟨A, j, none⟩) (by show A + 1 ≠ A; omega) v, fun u L h => h.two b0 b1 hT hT ((Fr.refl _ _).setEq (.inl rfl) _), fun B a h k => below_set k h v, by simp⟩
set_option maxHeartbeats 3200000 in
theorem q9touch_any (c : Int) (v1 v2 v3 : Value) (i o m : List Int) (k : Int) (w : World) (hsm : m.length < 50000) (h1 : KL w v1 i) (h2 : KL w v2 o) (h3 : KL w v3 m) :
    Calls Try.prog 123 #[.agg #[.int .i64 c, v1, v2, v3], .int .u64 k] w fun e w' => ∃ v1' v2' v3', e = .returned (.agg #[.int .i64 c, v1', v2', v3']) ∧ KL w' v1' (touchT ⟨c, i, o, m⟩ k).i ∧ KL w' v2' (touchT ⟨c, i, o, m⟩ k).o ∧ KL w' v3' (touchT ⟨c, i, o, m⟩ k).m ∧ Below w.heap.size w w' := by
  obtain ⟨a1, cap1, rfl⟩ := h1.form
  obtain ⟨a2, cap2, rfl⟩ := h2.form
  obtain ⟨a3, cap3, rfl⟩ := h3.form
  generalize hl1 : i.length = l1 at *
  generalize hl2 : o.length = l2 at *
  clear hl1 hl2
  obtain ⟨W, hW, b0, b1, B0⟩ := two_blocks w [.int .i64 c, .slice a1 l1 cap1, .slice a2 l2 cap2, .slice a3 m.length cap3] [.int .i64 0, .slice none 0 0, .slice none 0 0, .slice none 0 0] 60
  have k3 := h3.keep B0
  have K1 := Go.Lib.hid (h1.keep B0)
  have K2 := Go.Lib.hid (h2.keep B0)
  have K3 := Go.Lib.hid k3
  have HA := Go.Lib.hid (has_any _ m k W k3)
  have HFR := Go.Lib.hid (front_any _ m k W hsm k3)
  have HB0 := Go.Lib.hid B0
  have HW := Go.Lib.hid hW
  have Hb0 := Go.Lib.hid b0
  have Hb1 := Go.Lib.hid b1
  have l0 := b0.lt
  have l0' := b1.lt
  have HT : Hid (touchT ⟨c, i, o, m⟩ k = if k ∈ m then ⟨c, i, o, k :: wo m k⟩ else ⟨c, i, o, m⟩) := Go.Lib.hid rfl
  clear hW B0 h1 h2 h3 k3 b0 b1
  go_enter Try.func123, Try.ntmps123
  go_wp2_with fail
  rw [← HW.out]
  refine HA.out.mono ?_
  by_cases hk : k ∈ m
  · have hd : decide (k ∈ m) = true := decide_eq_true hk
    rw [hd]
    rw [if_pos hk] at HT
    clear hk hd
    rintro e w1 ⟨rfl, rfl⟩
    have c0 := Hb0.out.cell 0
    have c1 := Hb0.out.cell 1
    have c2 := Hb0.out.cell 2
    have c3 := Hb0.out.cell 3
    simp only [List.getElem?_cons_zero, List.getElem?_cons_succ] at c0 c1 c2 c3
    go_wp2_with fail
    refine HFR.out.mono ?_
    rintro e w2 ⟨v, rfl, hk2, ho2, hb2⟩
    obtain ⟨a4, cap4, rfl⟩ := hk2.form
    generalize hl4 : (k :: wo m k).length = l4 at *
    have b0 := Hb0.out.keep hb2
    have b1 := Hb1.out.keep hb2
    have g0 := b0.cell 0
    have g1 := b0.cell 1
    have g2 := b0.cell 2
    have g3 := b0.cell 3
    simp only [List.getElem?_cons_zero, List.getElem?_cons_succ] at g0 g1 g2 g3
    have f := b0.frozen 3
    have d0 := b1.cell 0
    have d1 := b1.cell 1
    have d2 := b1.cell 2
    have d3 := b1.cell 3
    simp only [List.getElem?_cons_zero, List.getElem?_cons_succ] at d0 d1 d2 d3
    have f0 := b1.frozen 0
    have f1 := b1.frozen 1
    have f2 := b1.frozen 2
    have f3 := b1.frozen 3
    have q0 := b0.lt
    have q1 := b1.lt
    have J1 := Go.Lib.hid (K1.out.keep hb2)
    have J2 := Go.Lib.hid (K2.out.keep hb2)
    have J3 := Go.Lib.hid hk2
    have Jb0 := Go.Lib.hid b0
    have Jb1 := Go.Lib.hid b1
    have HB2 := Go.Lib.hid (HB0.out.trans (hb2.mono HB0.out.size))
    clear b0 b1 hk2 ho2 hb2 c0 c1 c2 c3 hl4
    go_wp2_with fail
    refine bodyPost_ret (v := .agg #[.int .i64 c, .slice a1 l1 cap1, .slice a2 l2 cap2, .slice a4 l4 cap4]) (by simp [results, Try.results123, go_sem, g0, g1, g2, g3, d0, d1, d2, d3]) rfl ⟨_, _, _, rfl, ?_, ?_, ?_, ?_⟩
    · rw [HT.out]; exact J1.out.two Jb0.out Jb1.out (by decide) (by decide) (by repeat' (first | exact Fr.refl _ _ | refine Fr.setEq ?_ ?_ _ | exact .inl rfl | exact .inr rfl))
    · rw [HT.out]; exact J2.out.two Jb0.out Jb1.out (by decide) (by decide) (by repeat' (first | exact Fr.refl _ _ | refine Fr.setEq ?_ ?_ _ | exact .inl rfl | exact .inr rfl))
    · rw [HT.out]; exact J3.out.two Jb0.out Jb1.out (by decide) (by decide) (by repeat' (first | exact Fr.refl _ _ | refine Fr.setEq ?_ ?_ _ | exact .inl rfl | exact .inr rfl))
    · repeat' (first | exact HB2.out | refine below_set ?_ ?_ _ | omega)
  · have hd : decide (k ∈ m) = false := decide_eq_false hk
    rw [hd]
    rw [if_neg hk] at HT
    clear hk hd
    rintro e w1 ⟨rfl, rfl⟩
    generalize hl3 : m.length = l3 at *
    clear hl3
    have c0 := Hb0.out.cell 0
    have c1 := Hb0.out.cell 1
    have c2 := Hb0.out.cell 2
    have c3 := Hb0.out.cell 3
    simp only [List.getElem?_cons_zero, List.getElem?_cons_succ] at c0 c1 c2 c3
    have d0 := Hb1.out.cell 0
    have d1 := Hb1.out.cell 1
    have d2 := Hb1.out.cell 2
    have d3 := Hb1.out.cell 3
    simp only [List.getElem?_cons_zero, List.getElem?_cons_succ] at d0 d1 d2 d3
    have f0 := Hb1.out.frozen 0
    have f1 := Hb1.out.frozen 1
    have f2 := Hb1.out.frozen 2
    have f3 := Hb1.out.frozen 3
    go_wp2_with fail
    refine bodyPost_ret (v := .agg #[.int .i64 c, .slice a1 l1 cap1, .slice a2 l2 cap2, .slice a3 l3 cap3]) (by simp [results, Try.results123, go_sem, c0, c1, c2, c3, d0, d1, d2, d3]) rfl ⟨_, _, _, rfl, ?_, ?_, ?_, ?_⟩
    · rw [HT.out]; exact K1.out.two Hb0.out Hb1.out (by decide) (by decide) (by repeat' (first | exact Fr.refl _ _ | refine Fr.setEq ?_ ?_ _ | exact .inl rfl | exact .inr rfl))
    · rw [HT.out]; exact K2.out.two Hb0.out Hb1.out (by decide) (by decide) (by repeat' (first | exact Fr.refl _ _ | refine Fr.setEq ?_ ?_ _ | exact .inl rfl | exact .inr rfl))
    · rw [HT.out]; exact K3.out.two Hb0.out Hb1.out (by decide) (by decide) (by repeat' (first | exact Fr.refl _ _ | refine Fr.setEq ?_ ?_ _ | exact .inl rfl | exact .inr rfl))
    · repeat' (first | exact HB0.out | refine below_set ?_ ?_ _ | omega)
set_option maxHeartbeats 6400000 in
theorem q9drop_any (c : Int) (v1 v2 v3 : Value) (i o m : List Int) (k : Int) (w : World) (hsi : i.length < 50000) (hso : o.length < 50000) (hsm : m.length < 50000) (h1 : KL w v1 i) (h2 : KL w v2 o) (h3 : KL w v3 m) :
    Calls Try.prog 125 #[.agg #[.int .i64 c, v1, v2, v3], .int .u64 k] w fun e w' => ∃ v1' v2' v3', e = .returned (.agg #[.int .i64 c, v1', v2', v3']) ∧ KL w' v1' (wo i k) ∧ KL w' v2' (wo o k) ∧ KL w' v3' (wo m k) ∧ Below w.heap.size w w' := by
  obtain ⟨a1, cap1, rfl⟩ := h1.form
  obtain ⟨a2, cap2, rfl⟩ := h2.form
  obtain ⟨a3, cap3, rfl⟩ := h3.form
  obtain ⟨W, hW, b0, b1, B0⟩ := two_blocks w [.int .i64 c, .slice a1 i.length cap1, .slice a2 o.length cap2, .slice a3 m.length cap3] [.int .i64 0, .slice none 0 0, .slice none 0 0, .slice none 0 0] 60
  have K1 := Go.Lib.hid (h1.keep B0)
  have K2 := Go.Lib.hid (h2.keep B0)
  have K3 := Go.Lib.hid (h3.keep B0)
  have HB0 := Go.Lib.hid B0
  have HW := Go.Lib.hid hW
  have Hb0 := Go.Lib.hid b0
  have Hb1 := Go.Lib.hid b1
  have W1 := Go.Lib.hid (fun w h => without_any (.slice a1 i.length cap1) i k w (by omega) h)
  have W2 := Go.Lib.hid (fun w h => without_any (.slice a2 o.length cap2) o k w (by omega) h)
  have W3 := Go.Lib.hid (fun w h => without_any (.slice a3 m.length cap3) m k w (by omega) h)
  generalize hi : wo i k = i' at *
  generalize ho : wo o k = o' at *
  generalize hm : wo m k = m' at *
  generalize i.length = l1 at *
  generalize o.length = l2 at *
  generalize m.length = l3 at *
  clear hW B0 h1 h2 h3 b0 b1 hi ho hm
  go_enter Try.func125, Try.ntmps125
  go_wp2_with fail
  rw [← HW.out]
  refine (W1.out W K1.out).mono ?_
  rintro e w2 ⟨v, rfl, hk2, ho2, hb2⟩
  obtain ⟨a4, cap4, rfl⟩ := hk2.form
  generalize hl4 : i'.length = l4 at *
  have b0 := Hb0.out.keep hb2
  have b1 := Hb1.out.keep hb2
  have c0 := b0.cell 0
  have c1 := b0.cell 1
  have c2 := b0.cell 2
  have c3 := b0.cell 3
  simp only [List.getElem?_cons_zero, List.getElem?_cons_succ] at c0 c1 c2 c3
  have f := b0.frozen 1
  have q0 := b0.lt
  have q1 := b1.lt
  obtain ⟨U1, hU1, u0, u1, uk, ub, us⟩ := st_set b0 b1 (by decide) 1 (.slice a4 l4 cap4)
  have HU1 := Go.Lib.hid hU1
  have Hu0 : Hid (Blk U1 w.heap.size [.int .i64 c, .slice a4 l4 cap4, .slice a2 l2 cap2, .slice a3 l3 cap3] 60) := u0
  have Hu1 := Go.Lib.hid u1
  have J1 := Go.Lib.hid (uk _ _ hk2)
  have J2 := Go.Lib.hid (uk _ _ (K2.out.keep hb2))
  have J3 := Go.Lib.hid (uk _ _ (K3.out.keep hb2))
  have HB1 := Go.Lib.hid (ub _ _ (Nat.le_refl _) (HB0.out.trans (hb2.mono HB0.out.size)))
  clear b0 b1 hk2 ho2 hb2 hU1 u0 u1 uk ub us hl4
  go_wp2_with fail
  rw [← HU1.out]
  refine (W2.out U1 J2.out).mono ?_
  clear c0 c1 c2 c3 f q0 q1
  rintro e w2 ⟨v, rfl, hk2, ho2, hb2⟩
  obtain ⟨a5, cap5, rfl⟩ := hk2.form
  generalize hl5 : o'.length = l5 at *
  have b0 := Hu0.out.keep hb2
  have b1 := Hu1.out.keep hb2
  have c0 := b0.cell 0
  have c1 := b0.cell 1
  have c2 := b0.cell 2
  have c3 := b0.cell 3
  simp only [List.getElem?_cons_zero, List.getElem?_cons_succ] at c0 c1 c2 c3
  have f := b0.frozen 2
  have q0 := b0.lt
  have q1 := b1.lt
  obtain ⟨U2, hU2, u0, u1, uk, ub, us⟩ := st_set b0 b1 (by decide) 2 (.slice a5 l5 cap5)
  have HU2 := Go.Lib.hid hU2
  have Hv0 : Hid (Blk U2 w.heap.size [.int .i64 c, .slice a4 l4 cap4, .slice a5 l5 cap5, .slice a3 l3 cap3] 60) := u0
  have Hv1 := Go.Lib.hid u1
  have I1 := Go.Lib.hid (uk _ _ (J1.out.keep hb2))
  have I2 := Go.Lib.hid (uk _ _ hk2)
  have I3 := Go.Lib.hid (uk _ _ (J3.out.keep hb2))
  have HB2 := Go.Lib.hid (ub _ _ (Nat.le_refl _) (HB1.out.trans (hb2.mono HB1.out.size)))
  clear b0 b1 hk2 ho2 hb2 hU2 u0 u1 uk ub us hl5
  go_wp2_with fail
  rw [← HU2.out]
  refine (W3.out U2 I3.out).mono ?_
  clear c0 c1 c2 c3 f q0 q1
  rintro e w2 ⟨v, rfl, hk2, ho2, hb2⟩
  obtain ⟨a6, cap6, rfl⟩ := hk2.form
  generalize hl6 : m'.length = l6 at *
  have b0 := Hv0.out.keep hb2
  have b1 := Hv1.out.keep hb2
  have g0 := b0.cell 0
  have g1 := b0.cell 1
  have g2 := b0.cell 2
  have g3 := b0.cell 3
  simp only [List.getElem?_cons_zero, List.getElem?_cons_succ] at g0 g1 g2 g3
  have f := b0.frozen 3
  have d0 := b1.cell 0
  have d1 := b1.cell 1
  have d2 := b1.cell 2
  have d3 := b1.cell 3
  simp only [List.getElem?_cons_zero, List.getElem?_cons_succ] at d0 d1 d2 d3
  have f0 := b1.frozen 0
  have f1 := b1.frozen 1
  have f2 := b1.frozen 2
  have f3 := b1.frozen 3
  have q0 := b0.lt
  have q1 := b1.lt
  have G1 := Go.Lib.hid (I1.out.keep hb2)
  have G2 := Go.Lib.hid (I2.out.keep hb2)
  have G3 := Go.Lib.hid hk2
  have Jb0 := Go.Lib.hid b0
  have Jb1 := Go.Lib.hid b1
  have HB3 := Go.Lib.hid (HB2.out.trans (hb2.mono HB2.out.size))
  clear b0 b1 hk2 ho2 hb2 hl6
  go_wp2_with fail
  refine bodyPost_ret (v := .agg #[.int .i64 c, .slice a4 l4 cap4, .slice a5 l5 cap5, .slice a6 l6 cap6]) (by simp [results, Try.results125, go_sem, g0, g1, g2, g3, d0, d1, d2, d3]) rfl ⟨_, _, _, rfl, ?_, ?_, ?_, ?_⟩
  · exact G1.out.two Jb0.out Jb1.out (by decide) (by decide) (by repeat' (first | exact Fr.refl _ _ | refine Fr.setEq ?_ ?_ _ | exact .inl rfl | exact .inr rfl))
  · exact G2.out.two Jb0.out Jb1.out (by decide) (by decide) (by repeat' (first | exact Fr.refl _ _ | refine Fr.setEq ?_ ?_ _ | exact .inl rfl | exact .inr rfl))
  · exact G3.out.two Jb0.out Jb1.out (by decide) (by decide) (by repeat' (first | exact Fr.refl _ _ | refine Fr.setEq ?_ ?_ _ | exact .inl rfl | exact .inr rfl))
  · repeat' (first | exact HB3.out | refine below_set ?_ ?_ _ | omega)
end Go.Proofs.Ytlakojncjldpbaa

namespace Go.Proofs.Ytlakojncjldpbaa
open Go.RowKit Hop
set_option linter.unusedVariables false
set_option linter.unusedSimpArgs false
set_option maxRecDepth 100000
set_option maxHeartbeats 400000 in
theorem q9ghosts_any (c : Int) (v1 v2 v3 : Value) (o : List Int) (w : World) (h2 : KL w v2 o) :
    Calls Try.prog 52 #[.agg #[.int .i64 c, v1, v2, v3]] w fun e w' => e = .returned (.int .i64 o.length) ∧ Below w.heap.size w w' := by
  obtain ⟨a2, cap2, rfl⟩ := h2.form
  have HB := Go.Lib.hid ((Below.refl w.heap.size w).alloc (Nat.le_refl _) (.cells #[.int .i64 c, v1, .slice a2 o.length cap2, v3] 60))
  clear h2
  go_enter Try.func52, Try.ntmps52
  go_wp2_with fail
  go_ret
  exact ⟨rfl, HB.out⟩
set_option maxHeartbeats 1600000 in
theorem q9keys_any (c : Int) (v1 v2 v3 : Value) (i m : List Int) (w : World) (hsi : i.length < 50000) (hsm : m.length < 50000) (h1 : KL w v1 i) (h3 : KL w v3 m) :
    Calls Try.prog 48 #[.agg #[.int .i64 c, v1, v2, v3]] w fun e w' => ∃ v', e = .returned v' ∧ KL w' v' (i ++ m) ∧ Below w.heap.size w w' := by
  obtain ⟨W, hW⟩ : ∃ W, W = w.alloc (.cells #[.int .i64 c, v1, v2, v3] 60) := ⟨_, rfl⟩
  have b0 : Blk W w.heap.size [.int .i64 c, v1, v2, v3] 60 := by rw [hW]; exact Blk.new0 w [.int .i64 c, v1, v2, v3] 60
  have B0 : Below w.heap.size w W := by rw [hW]; exact (Below.refl w.heap.size w).alloc (Nat.le_refl _) _
  have s0 : W.heap.size = w.heap.size + 1 := by rw [hW]; simp
  obtain ⟨V, hV⟩ : ∃ V, V = (W.alloc (.cells #[] 31)).drew := ⟨_, rfl⟩
  have BV : Below W.heap.size W V := by rw [hV]; exact ((Below.refl _ _).alloc (Nat.le_refl _) _).drew
  have bn : Blk V W.heap.size [] 31 := by rw [hV]; exact (Blk.new0 W [] 31)
  have bV := b0.keep BV
  have kV1 : KL V v1 i := (h1.keep B0).keep BV
  have kV3 : KL V v3 m := (h3.keep B0).keep BV
  have kn : Row V 31 1 (.slice (some ⟨W.heap.size, 0, none⟩) 0 0) 0 [] := ⟨rfl, .inr ⟨W.heap.size, 0, [], rfl, bn, Nat.le_refl _, by unfold maxLen; omega, Nat.le_refl _, rfl⟩⟩
  have wBV : Below w.heap.size w V := B0.trans (BV.mono B0.size)
  have own0 : ∀ b, (Value.slice (some ⟨W.heap.size, 0, none⟩) 0 0).ownBlock = some b → b = W.heap.size := fun b hb => by
    have e : W.heap.size = b := by simpa [Value.ownBlock] using hb
    exact e.symm
  -- behind an append into a new block
  have G : ∀ (u : Value) (w1 w2 : World), Fr (fun b => u.ownBlock = some b) w1 w2 → (∀ b, u.ownBlock = some b → W.heap.size ≤ b) → Below W.heap.size W w1 →
      ((w2.cell? ⟨w.heap.size, 1, none⟩ = some v1 ∧ w2.cell? ⟨w.heap.size, 3, none⟩ = some v3) ∧ KL w2 v3 m ∧ Below W.heap.size W w2) := by
    intro u w1 w2 hf hu hb1
    have hb2 := below_fr hb1 hf (Nat.le_refl _) hu
    exact ⟨⟨(b0.keep hb2).cell 1, (b0.keep hb2).cell 3⟩, (h3.keep B0).keep hb2, hb2⟩
  have HG := Go.Lib.hid G
  have HO := Go.Lib.hid own0
  have HBV := Go.Lib.hid BV
  have HKN := Go.Lib.hid kn
  have HK1 := Go.Lib.hid kV1
  have HS0 : Hid (W.drew.cell? ⟨w.heap.size, 1, none⟩ = some v1 ∧ W.drew.cell? ⟨w.heap.size, 3, none⟩ = some v3) := Go.Lib.hid ⟨b0.cell 1, b0.cell 3⟩
  have HSV : Hid (V.cell? ⟨w.heap.size, 1, none⟩ = some v1 ∧ V.cell? ⟨w.heap.size, 3, none⟩ = some v3) := Go.Lib.hid ⟨bV.cell 1, bV.cell 3⟩
  have HB0 := Go.Lib.hid B0
  have HW := Go.Lib.hid hW
  have HV := Go.Lib.hid hV
  have M1 : Hid (0 + i.length ≤ maxLen) := Go.Lib.hid (by unfold maxLen; omega)
  have M2 : Hid ((0 + i.length) * 8 ≤ 140737488355328) := Go.Lib.hid (by omega)
  have M3 : Hid (0 + i.length + m.length ≤ maxLen) := Go.Lib.hid (by unfold maxLen; omega)
  have M4 : Hid ((0 + i.length + m.length) * 8 ≤ 140737488355328) := Go.Lib.hid (by omega)
  have HSV' : Hid ((W.alloc (.cells #[] 31)).drew.cell? ⟨w.heap.size, 1, none⟩ = some v1 ∧ (W.alloc (.cells #[] 31)).drew.cell? ⟨w.heap.size, 3, none⟩ = some v3) := by rw [← HV.out]; exact HSV.out
  clear hW b0 B0 s0 hV BV bn bV kV1 kV3 kn wBV own0 G h1 h3
  go_enter Try.func48, Try.ntmps48
  go_wp2_with fail
  rw [← HW.out]
  go_region_held3 (fun W' => W'.cell? ⟨w.heap.size, 1, none⟩ = some v1 ∧ W'.cell? ⟨w.heap.size, 3, none⟩ = some v3)
    (first | exact s2 | exact s1 | exact HSV'.out | exact HS0.out)
    (first | (rw [← HV.out]; refine step_append_rows rfl (.tmp 3) (.tmp 5) 26 rfl 31 (.int .u64 0) 1 8 Try.underlying26 u64_info rfl (by decide) (.slice (some ⟨W.heap.size, 0, none⟩) 0 0) 0 [] rfl HKN.out v1 i.length (i.map (Value.int .u64)) rfl HK1.out (keys_one _) M1.out M2.out ?_; intro x1 w1 r1 r2 r3; obtain ⟨s1, k1, q1⟩ := HG.out _ _ _ r2 (fun b hb => by rw [HO.out b hb]; exact Nat.le_refl _) HBV.out) | (refine step_append_rows rfl (.tmp 6) (.tmp 8) 26 rfl 31 (.int .u64 0) 1 8 Try.underlying26 u64_info rfl (by decide) x1 (0 + i.length) ([] ++ i.map (Value.int .u64)) rfl r1 v3 m.length (m.map (Value.int .u64)) rfl k1 (keys_one _) M3.out M4.out ?_; intro x2 w2 r4 r5 r6; obtain ⟨s2, k2, q2⟩ := HG.out _ _ _ r5 (fun b hb => by rcases r3 b hb with h | h; rw [HO.out b h]; exact Nat.le_refl _; exact Nat.le_trans HBV.out.size h) q1))
  have K2 : KL w2 x2 (i ++ m) := by
    unfold KL
    rw [List.map_append, List.length_append]
    have r := r4
    rw [List.nil_append, Nat.zero_add] at r
    exact r
  have HK2 := Go.Lib.hid K2
  have HB2 := Go.Lib.hid (HB0.out.trans (q2.mono HB0.out.size))
  clear r1 r2 r3 r4 r5 r6 s1 s2 k1 k2 q1 q2 K2
  go_wp2_with fail
  go_ret
  exact ⟨x2, rfl, HK2.out, HB2.out⟩
end Go.Proofs.Ytlakojncjldpbaa
