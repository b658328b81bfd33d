/- The cache of low inter-reference recency: shrink. -/
import Derived.Test.YtlakojncjldpbaaLc6
namespace Go.Proofs.Ytlakojncjldpbaa
open Go.RowKit Hop
set_option linter.unusedVariables false
set_option linter.unusedSimpArgs false
set_option maxRecDepth 100000
theorem wo_head {k : Int} {r : List Int} (h : (k :: r).Nodup) : wo (k :: r) k = r := by
  obtain ⟨h1, _⟩ := List.nodup_cons.1 h
  have e : wo (k :: r) k = wo r k := by unfold wo; rw [List.filter_cons, if_neg (by simp)]
  rw [e, wo_id h1]
set_option maxHeartbeats 6400000 in
theorem shrink_ca {px : Nat} {O : Nat → Prop} {s : LS} {p1 p2 : Nat} (n : Int) (w : World) (hn : 0 ≤ n ∧ n ≤ 1048576) (hs : s.st) (hm : (manyL s.s 2 : Int) ≤ n) (H : Lca w px O s p1 p2) :
    Calls Try.prog 149 #[P0 px, .int .i64 n] w fun e w' => ∃ vo O', e = .returned vo ∧ Lca w' px O' (shrinkL s n).1 p1 p2 ∧ Chg O O' w w' ∧ KL w' vo (shrinkL s n).2 ∧ (∀ b, vo.ownBlock = some b → w.heap.size ≤ b ∧ ¬ O' b) := by
  obtain ⟨hn0, hn1⟩ := hn
  have hln := Lcr.len H
  obtain ⟨R, hR⟩ : ∃ R, R = shrinkS n s.s s.q := ⟨_, rfl⟩
  have e1 : (shrinkL s n).1 = ⟨s.c, R.1, R.2.1⟩ := by rw [hR]; rfl
  have e2 : (shrinkL s n).2 = R.2.2 := by rw [hR]; rfl
  rw [e1, e2]
  have HRR : Hid (shrinkS n s.s s.q = (R.1, R.2.1, R.2.2)) := Go.Lib.hid hR.symm
  have HST := Go.Lib.hid hs
  have HM := Go.Lib.hid hm
  have HH := Go.Lib.hid H
  have hl : s.q.length < 50000 := by omega
  generalize hg0 : s.q.length = g0 at *
  have HG0 := Go.Lib.hid hg0
  clear hR hs hm H hg0 e1 e2 hln
  go_enter Try.func149, Try.ntmps149
  go_wp2_with fail
  go_loopg [5] g0 (fun g vo wr => ∃ (S' : List LI) (q' gone G2 : List Int) (O' : Nat → Prop), q'.length = g ∧ gone.length + g ≤ g0 ∧ (LS.mk s.c S' q').st ∧ (manyL S' 2 : Int) ≤ n ∧ shrinkS n S' q' = (R.1, R.2.1, G2) ∧ gone ++ G2 = R.2.2 ∧ KL wr vo gone ∧ (∀ b, vo.ownBlock = some b → w.heap.size ≤ b ∧ ¬ O' b) ∧ Lca wr px O' ⟨s.c, S', q'⟩ p1 p2 ∧ Chg O O' w wr)
  case atStart => exact ⟨s.s, s.q, [], R.2.2, O, HG0.out, by simp, HST.out, HM.out, HRR.out, rfl, KL.nil _, fun b hb => (by cases hb), HH.out, Chg.refl _ _⟩
  case round =>
    clear HRR HG0 HH HST HM
    obtain ⟨S', q', gone, G2, O', hg, hgl, hst, hm, hsh, hgo, hko, hoo, hlc, hch⟩ := hrel
    have hbd := hlc.bnd
    obtain ⟨ps, pq, O1, O2, hp, rfl⟩ := hlc
    have c0 := hp.x.cell 0
    have c1 := hp.x.cell 1
    have c4 := hp.x.cell 4
    have lx := hp.x.lt
    simp only [List.getElem?_cons_zero, List.getElem?_cons_succ] at c0 c1 c4
    have HTO := Go.Lib.hid (total_q wr.drew hp.drew.qu)
    have HP := Go.Lib.hid hp.drew
    have HKO := Go.Lib.hid (hko.keep (Below.refl _ _).drew)
    have HCH := Go.Lib.hid hch.drew
    have HOO := Go.Lib.hid hoo
    have HST := Go.Lib.hid hst
    have HSH := Go.Lib.hid hsh
    have HGO := Go.Lib.hid hgo
    have HM := Go.Lib.hid hm
    have HG := Go.Lib.hid hg
    have HSS : Hid (wr.drew.cell? ⟨px, 1, none⟩ = some (P0 pq) ∧ wr.drew.cell? ⟨px, 4, none⟩ = some (.int .i64 (manyL S' 2 : Nat))) := Go.Lib.hid ⟨c1, c4⟩
    have hgk : (gk : Int) < 100000 := by omega
    rw [hg] at HTO
    have b2 := hbd.2.2
    generalize hM2 : (manyL S' 2 : Int) = M2 at *
    obtain ⟨b20, b21⟩ := b2
    have hwr : IntKind.i64.wrap (M2 + (gk : Int)) = M2 + gk := IntWalk.i64_in _ (by omega)
    have HM2 := Go.Lib.hid hM2
    clear hp hko hch hoo hst hsh hgo hm hg hbd hM2 c4
    go_wp2_with fail
    go_region_held3 (fun W' => W'.cell? ⟨px, 1, none⟩ = some (P0 pq) ∧ W'.cell? ⟨px, 4, none⟩ = some (.int .i64 M2))
      (first | exact HSS.out)
      (first | (go_at_call 179; refine HTO.out.mono ?_; rintro e w1 ⟨rfl, rfl⟩))
    obtain ⟨wd, hwd⟩ : ∃ wd, wd = wr.drew := ⟨_, rfl⟩
    rw [← hwd] at HP HKO HCH ⊢
    (try rw [hwr])
    clear hwr
    have hsz : wr.heap.size ≤ wd.heap.size := by rw [hwd]; exact Nat.le_refl _
    clear HTO HSS hwd c0 c1
    have d0 := HP.out.x.cell 0
    have d1 := HP.out.x.cell 1
    simp only [List.getElem?_cons_zero, List.getElem?_cons_succ] at d0 d1
    by_cases hlt : n < M2 + gk
    · obtain ⟨j, hj1⟩ : ∃ j, gk = j + 1 := ⟨gk - 1, by have := HM.out; omega⟩
      have HJ1 := Go.Lib.hid hj1
      cases q' with
      | nil => exact absurd HG.out (by simp; omega)
      | cons k r =>
        have hgn : gone.length < 50000 := by omega
        have hj : r.length = j := by have := HG.out; simp at this; omega
        have hsh := HSH.out
        unfold shrinkS at hsh
        rw [if_neg (by rw [HM2.out, hj]; omega)] at hsh
        injection hsh with f1 f2
        injection f2 with f2 f3
        have HF : Hid (shrinkS n (setL S' k 0) r = (R.1, R.2.1, (shrinkS n (setL S' k 0) r).2.2)) := Go.Lib.hid (by rw [← f1, ← f2])
        have HE2 : Hid (gone ++ [k] ++ (shrinkS n (setL S' k 0) r).2.2 = R.2.2) := Go.Lib.hid (by rw [← HGO.out, ← f3]; simp)
        obtain ⟨s1, s2, s3, s4⟩ := HST.out.out (k := k) (r := r) rfl
        (try simp only at s1 s2 s3 s4)
        have HS1 := Go.Lib.hid s1
        have HS2 := Go.Lib.hid s2
        have HS4 := Go.Lib.hid s4
        obtain ⟨hk0, hk1⟩ := ks_q HP.out.qu.qok (k := k) (by simp)
        have HFR := Go.Lib.hid (front_q (x := k) (r := r) wd rfl HP.out.qu)
        have HRM := Go.Lib.hid (fun w' (hb : Below wd.heap.size wd w') => remove_q k w' hk0 hk1 (HP.out.qu.keep hb))
        have hwh := wo_head (HST.out.nq)
        (try simp only at hwh)
        rw [hwh] at HRM
        have HJ := Go.Lib.hid hj
        have HGL := Go.Lib.hid hgl
        clear f1 f2 f3 s1 s2 s3 s4 hwh hj hgl hgk hj1
        go_wp2_with fail
        refine HFR.out.mono ?_
        rintro e w2 ⟨rfl, hb2⟩
        have x2 := HP.out.keep hb2
        have e0 := x2.x.cell 0
        have e1 := x2.x.cell 1
        simp only [List.getElem?_cons_zero, List.getElem?_cons_succ] at e0 e1
        have HB2 := Go.Lib.hid hb2
        have HX2 := Go.Lib.hid x2
        clear hb2 d0 d1 x2
        go_wp2_with fail
        refine (HRM.out _ HB2.out).mono ?_
        rintro e w3 ⟨⟨b, rfl⟩, O2', h1, h2⟩
        obtain ⟨g1, g2⟩ := HX2.out.que h1 h2
        have e0 := g1.x.cell 0
        simp only [List.getElem?_cons_zero, List.getElem?_cons_succ] at e0
        have HG1 := Go.Lib.hid g1
        have HG2 := Go.Lib.hid ((Chg.of_below (O := own2 px O1 O2) HB2.out).trans g2)
        have HFD := Go.Lib.hid (find_l k w3 hk0 hk1 g1.st)
        clear g1 g2 h1 h2 e1 HRM HFR
        have key : ∀ (b : Bool) (w4 : World), b = decide (k ∈ keysL S') → Below w3.heap.size w3 w4 → (b = true → Calls Try.prog 190 #[P0 px, .int .u64 k, .int .i64 0] w4 fun e w' => e = .returned (.tuple #[]) ∧ ∃ O', Lca w' px O' ⟨s.c, setL S' k 0, r⟩ p1 p2 ∧ Chg (own2 px O1 O2') O' w4 w') ∧ (b = false → Lca w4 px (own2 px O1 O2') ⟨s.c, setL S' k 0, r⟩ p1 p2) := by
          intro b w4 hb hbl
          have hl4 : Lca w4 px (own2 px O1 O2') ⟨s.c, S', r⟩ p1 p2 := ⟨ps, pq, O1, O2', by have := HG1.out.keep hbl; rw [← HM2.out] at this; exact this, rfl⟩
          refine ⟨fun e => ?_, fun e => ?_⟩
          · rw [e] at hb
            have hk := of_decide_eq_true hb.symm
            exact kind_ca10 k hk0 hk1 hk (HS4.out hk) hl4
          · rw [e] at hb
            rw [setL_id (of_decide_eq_false hb.symm)]
            exact hl4
        have HKEY := Go.Lib.hid key
        clear key
        generalize hbb : decide (k ∈ keysL S') = bb at *
        have HBB := Go.Lib.hid hbb.symm
        clear hbb
        have HK3 : Hid (KL w3 u5 gone) := Go.Lib.hid (Row.frame HKO.out HG2.out.fr (fun b hb => (HOO.out b hb).2))
        have END : ∀ (w5 : World) (O5 : Nat → Prop), Lca w5 px O5 ⟨s.c, setL S' k 0, r⟩ p1 p2 → Chg (own2 px O1 O2) O5 wd w5 → KL w5 u5 gone ∧ (∀ b, u5.ownBlock = some b → w.heap.size ≤ b ∧ ¬ O5 b) := by
          intro w5 O5 h5 c5
          have hno : ∀ b, u5.ownBlock = some b → b < wd.heap.size := fun b hb => (Row.lt HKO.out hb).1
          exact ⟨Row.frame HKO.out c5.fr (fun b hb => (HOO.out b hb).2), fun b hb => ⟨(HOO.out b hb).1, c5.not (hno b hb) (HOO.out b hb).2⟩⟩
        have HEND := Go.Lib.hid END
        clear END
        cases bb with
        | true =>
          go_wp2_with fail
          refine HFD.out.mono ?_
          rintro e w4 ⟨rfl, hb4⟩
          have HB4 := Go.Lib.hid hb4
          have HKD := Go.Lib.hid ((HKEY.out true w4 rfl hb4).1 rfl)
          clear hb4 e0
          go_wp2_with fail
          refine HKD.out.mono ?_
          rintro e w5 ⟨rfl, O5, h5, c5⟩
          have C5 := ((HG2.out.below HB4.out)).trans c5
          obtain ⟨k5, o5⟩ := HEND.out w5 O5 h5 C5
          have HH5 := Go.Lib.hid h5
          have HC5 := Go.Lib.hid (HCH.out.trans C5)
          have HK5 := Go.Lib.hid k5
          have HO5 := Go.Lib.hid o5
          clear h5 c5 C5 k5 o5
          go_wp2_with (at_builtin; refine wpList_append_row _ rfl (.tmp 50) (.tmp 52) 26 rfl 31 (.int .u64 0) 1 8 Try.underlying26 u64_info rfl (by decide) _ _ _ rfl (Row.keep HK5.out ((Below.refl _ _).alloc (Nat.le_refl _) _)) ⟨w5.heap.size, 0, none⟩ 1 1 [.int .u64 k] rfl (by decide) rfl ?c1b ?c2b ?b1b ?b2b ?nextb)
          case c1b => intro i u hu; match i, hu with | 0, hu => simp at hu; subst hu; simp [Addr.add]
          case c2b => intro u hu; simp at hu; subst hu; rfl
          case b1b => unfold maxLen; omega
          case b2b => omega
          case nextb =>
            intro g' cap' w6 hr6 hf6 hg6
            have A5 := (Below.refl w5.heap.size w5).alloc (Nat.le_refl _) (.cells #[.int .u64 k] 31)
            have F6 : Fr (fun b => u5.ownBlock = some b) w5 w6 := (Fr.of_below A5).trans hf6 (fun i hi => .inl hi)
            have L6 := HH5.out.frame F6 (fun b hb hv => (HO5.out b hv).2 hb)
            have C6 : Chg O O5 w w6 := ⟨HC5.out.fr.trans F6 (fun i hi => .inr (HO5.out i hi).1), HC5.out.own⟩
            have K6 : KL w6 (.slice (some ⟨g', 0, none⟩) (gone.length + 1) cap') (gone ++ [k]) := by
              unfold KL
              rw [List.map_append, List.length_append]
              exact hr6
            have O6 : ∀ b, (Value.slice (some ⟨g', 0, none⟩) (gone.length + 1) cap').ownBlock = some b → w.heap.size ≤ b ∧ ¬ O5 b := by
              intro b hb
              have e : g' = b := by simpa [Value.ownBlock] using hb
              subst e
              rcases hg6 with h | h
              · exact HO5.out _ h
              · have z := HC5.out.fr.size
                exact ⟨by omega, fun ho => by have := Lcr.lt HH5.out ho; omega⟩
            have HL6 := Go.Lib.hid L6
            have HC6 := Go.Lib.hid C6
            have HK6 := Go.Lib.hid K6
            have HO6 := Go.Lib.hid O6
            clear L6 C6 K6 O6 F6 A5 hr6 hf6 hg6
            go_wp2_with fail
            go_roundg j
            case rel => exact ⟨setL S' k 0, r, gone ++ [k], _, O5, HJ.out, by have := HGL.out; have := HJ1.out; simp; omega, HS1.out, by rw [HS2.out, HM2.out]; exact HM.out, HF.out, HE2.out, HK6.out, HO6.out, HL6.out, HC6.out⟩
            case measure => have := HJ1.out; omega
        | false =>
          go_wp2_with fail
          refine HFD.out.mono ?_
          rintro e w5 ⟨rfl, hb4⟩
          have h5 := (HKEY.out false w5 rfl hb4).2 rfl
          have C5 := (HG2.out.below hb4)
          obtain ⟨O5, hO5⟩ : ∃ O5, O5 = own2 px O1 O2' := ⟨_, rfl⟩
          rw [← hO5] at h5 C5
          obtain ⟨k5, o5⟩ := HEND.out w5 O5 h5 C5
          have HH5 := Go.Lib.hid h5
          have HC5 := Go.Lib.hid (HCH.out.trans C5)
          have HK5 := Go.Lib.hid k5
          have HO5 := Go.Lib.hid o5
          clear h5 C5 k5 o5 hb4 e0
          go_wp2_with (at_builtin; refine wpList_append_row _ rfl (.tmp 50) (.tmp 52) 26 rfl 31 (.int .u64 0) 1 8 Try.underlying26 u64_info rfl (by decide) _ _ _ rfl (Row.keep HK5.out ((Below.refl _ _).alloc (Nat.le_refl _) _)) ⟨w5.heap.size, 0, none⟩ 1 1 [.int .u64 k] rfl (by decide) rfl ?c1c ?c2c ?b1c ?b2c ?nextc)
          case c1c => intro i u hu; match i, hu with | 0, hu => simp at hu; subst hu; simp [Addr.add]
          case c2c => intro u hu; simp at hu; subst hu; rfl
          case b1c => unfold maxLen; omega
          case b2c => omega
          case nextc =>
            intro g' cap' w6 hr6 hf6 hg6
            have A5 := (Below.refl w5.heap.size w5).alloc (Nat.le_refl _) (.cells #[.int .u64 k] 31)
            have F6 : Fr (fun b => u5.ownBlock = some b) w5 w6 := (Fr.of_below A5).trans hf6 (fun i hi => .inl hi)
            have L6 := HH5.out.frame F6 (fun b hb hv => (HO5.out b hv).2 hb)
            have C6 : Chg O O5 w w6 := ⟨HC5.out.fr.trans F6 (fun i hi => .inr (HO5.out i hi).1), HC5.out.own⟩
            have K6 : KL w6 (.slice (some ⟨g', 0, none⟩) (gone.length + 1) cap') (gone ++ [k]) := by
              unfold KL
              rw [List.map_append, List.length_append]
              exact hr6
            have O6 : ∀ b, (Value.slice (some ⟨g', 0, none⟩) (gone.length + 1) cap').ownBlock = some b → w.heap.size ≤ b ∧ ¬ O5 b := by
              intro b hb
              have e : g' = b := by simpa [Value.ownBlock] using hb
              subst e
              rcases hg6 with h | h
              · exact HO5.out _ h
              · have z := HC5.out.fr.size
                exact ⟨by omega, fun ho => by have := Lcr.lt HH5.out ho; omega⟩
            have HL6 := Go.Lib.hid L6
            have HC6 := Go.Lib.hid C6
            have HK6 := Go.Lib.hid K6
            have HO6 := Go.Lib.hid O6
            clear L6 C6 K6 O6 F6 A5 hr6 hf6 hg6
            go_wp2_with fail
            go_roundg j
            case rel => exact ⟨setL S' k 0, r, gone ++ [k], _, O5, HJ.out, by have := HGL.out; have := HJ1.out; simp; omega, HS1.out, by rw [HS2.out, HM2.out]; exact HM.out, HF.out, HE2.out, HK6.out, HO6.out, HL6.out, HC6.out⟩
            case measure => have := HJ1.out; omega
    · have hsh : shrinkS n S' q' = (S', q', []) := by
        cases q' with
        | nil => rfl
        | cons k r =>
          unfold shrinkS
          rw [if_pos (by have := HG.out; simp at this; rw [HM2.out]; omega)]
      have hsh2 := HSH.out
      rw [hsh] at hsh2
      injection hsh2 with f1 f2
      injection f2 with f2 f3
      have HF1 := Go.Lib.hid f1
      have HF2 := Go.Lib.hid f2
      have HF3 : Hid (gone = R.2.2) := Go.Lib.hid (by rw [← HGO.out, ← f3]; simp)
      have HLC : Hid (Lca wd px (own2 px O1 O2) ⟨s.c, R.1, R.2.1⟩ p1 p2) := Go.Lib.hid (by
        rw [← HF1.out, ← HF2.out]
        exact ⟨ps, pq, O1, O2, by have := HP.out; rw [← HM2.out] at this; exact this, rfl⟩)
      clear hsh f1 f2 f3 d0 d1 hgl hgk
      go_wp2_with fail
      go_ret
      first | exact ⟨_, rfl, _, HLC.out, HCH.out, by rw [← HF3.out]; exact HKO.out, HOO.out⟩ | exact ⟨_, _, rfl, HLC.out, HCH.out, by rw [← HF3.out]; exact HKO.out, HOO.out⟩
end Go.Proofs.Ytlakojncjldpbaa
