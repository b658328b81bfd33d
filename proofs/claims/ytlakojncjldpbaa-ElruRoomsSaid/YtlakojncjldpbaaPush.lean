/- A key laid into a queue. -/
import Derived.Test.YtlakojncjldpbaaSto
namespace Go.Proofs.Ytlakojncjldpbaa
open Go.RowKit Hop
set_option linter.unusedVariables false
set_option linter.unusedSimpArgs false
set_option maxRecDepth 100000
theorem frv_ne {w : World} {v : Value} {l : List Int} (h : Frv w v l) {b : Nat} {cs : List Value} {T : Nat} (hb : Blk w b cs T) (hT : 21 ≠ T) : ∀ k, v.ownBlock = some k → k ≠ b := by
  intro k hk
  obtain ⟨_, cs', h'⟩ := h.lt hk
  exact h'.ne hb hT
theorem Hop.SRep.relist {w w' : World} {L : Hop.Loc} {s : St} (h : SRep w L s) (hf : Fr (fun k => k = L.ba ∨ k = L.bl) w w') {S' : List Sl} {ls' : List Li} (H : LRep w' L.pl L.pa L.bl L.ba S' ls' L.fv (.int .i64 s.next) (.int .i64 s.live)) :
    SRep w' L { s with slots := S', lists := ls' } := by
  refine ⟨hf.blk ?_ h.hs, H.hl, H.ha, hf.blk ?_ h.ht, H.bl, H.ba, hf.blk ?_ h.bt, h.fr.frame hf ?_⟩
  · rintro (e | e)
    · exact h.hs.ne h.ba (by decide) e
    · exact h.hs.ne h.bl (by decide) e
  · rintro (e | e)
    · exact h.ht.ne h.ba (by decide) e
    · exact h.ht.ne h.bl (by decide) e
  · rintro (e | e)
    · exact h.bt.ne h.ba (by decide) e
    · exact h.bt.ne h.bl (by decide) e
  · rintro k hk (e | e)
    · exact frv_ne h.fr h.ba (by decide) k hk e
    · exact frv_ne h.fr h.bl (by decide) k hk e
section
variable {L : Hop.Loc} {s : St} {q : List (List Int)} {p : Nat}
theorem put_any (pt bt : Nat) (k v : Int) (w : World) (hk0 : 0 ≤ k) (hk1 : k < 18446744073709551616) (G : Good s q p) (hno : ∀ v, ¬ Tin s.tab k v) (h : TRep w pt bt s.tab s.many) :
    Calls Try.prog 218 #[P0 pt, .int .u64 k, .int .i32 v] w fun e w' => e = .returned (.tuple #[]) ∧ ∃ bt' t', (bt' = bt ∨ w.heap.size ≤ bt') ∧ Fr (fun x => x = pt ∨ x = bt) w w' ∧ TRep w' pt bt' t' (s.many + 1) ∧ Puts s.tab t' k v := by
  have hb2 := G.b2
  have hb4 := G.b4
  have hm : s.many = cnt s.tab := by rw [G.mn, G.cn]
  rw [hm] at h ⊢
  by_cases hroom : 4 * (cnt s.tab + 1) ≤ 3 * s.tab.length
  · refine (put_room pt bt s.tab k v w hk0 hk1 G.p2 (by omega) G.ti hno hroom h).mono ?_
    rintro e w' ⟨rfl, t', hf, ht, hp⟩
    exact ⟨rfl, bt, t', .inl rfl, hf, ht, hp⟩
  · refine (put_grow pt bt s.tab k v w hk0 hk1 G.p2 (by omega) G.ti hno (by omega) G.fit G.keys h).mono ?_
    rintro e w' ⟨rfl, bt', t', hge, hf, ht, hp⟩
    exact ⟨rfl, bt', t', .inr hge, hf, ht, hp⟩
/-- Ahead of the laying: the slot is taken, the key is in the table. -/
structure Mid (L : Hop.Loc) (s : St) (q : List (List Int)) (k : Int) (w w1 : World) (i : Int) (S1 : List Sl) (fs1 : List Int) (nx1 : Int) (fv1 : Value) (ba1 bt1 : Nat) (tab1 : List Ts) : Prop where
  tk : Took s.slots S1 i
  ai : AI S1 fs1 nx1 (total q + 1)
  len : S1.length = s.slots.length ∨ (S1.length = 2 * s.slots.length ∧ s.slots.length = total q + 1)
  puts : Puts s.tab tab1 k i
  fr : Fr L.has w w1
  own : fv1.ownBlock = L.fv.ownBlock
  oba : ba1 = L.ba ∨ w.heap.size ≤ ba1
  obt : bt1 = L.bt ∨ w.heap.size ≤ bt1
  rep : SRep w1 { L with ba := ba1, bt := bt1, fv := fv1 } ⟨st S1 i ⟨kN k, true⟩, fs1, nx1, s.live + 1, s.lists, tab1, s.many + 1, s.queues⟩
set_option maxHeartbeats 1600000 in
theorem push_any (K t : Nat) (k : Int) (w : World) (Q : World → Prop) (hK : ∀ args W, (callFunc K args).run Try.prog W = .ok (.enter K args) W) (hk0 : 0 ≤ k) (hk1 : k < 18446744073709551616) (ht : t < q.length) (R : SRep w L s) (G : Good s q p)
    (hno : ∀ j, isT s.slots j = true → (ndT s.slots j).key ≠ k)
    (HL : ∀ w1 i S1 fs1 nx1 fv1 ba1 bt1 tab1, Mid L s q k w w1 i S1 fs1 nx1 fv1 ba1 bt1 tab1 → Calls Try.prog K #[P0 L.pl, .int .i64 t, .int .i32 i] w1 fun e w' => e = .returned (.bool true) ∧ Q w') :
    Calls Try.prog 181 #[P0 L.ps, .int .i64 t, .int .u64 k, .func (.func K) #[] #[]] w fun e w' => e = .returned (.bool true) ∧ Q w' := by
  have c3 := R.hs.cell 3
  simp only [List.getElem?_cons_zero, List.getElem?_cons_succ] at c3
  have hqn := G.qn
  have hq8 := G.q8
  have hlv := G.lv
  have hb1 := G.b1
  have hb3 := G.b3
  have hb4 := G.b4
  have HNA := Go.Lib.hid (node_any k w hk0 hk1 R G)
  have HG := Go.Lib.hid G
  have HR := Go.Lib.hid R
  have HNO := Go.Lib.hid hno
  have HHL := Go.Lib.hid HL
  have HKK := hK
  have hqq : (t : Int) < s.queues := by omega
  have hqs : s.queues ≤ 8 := by omega
  have hlv1 : 0 ≤ s.live ∧ s.live < 1000000 := by omega
  have hsl : s.slots.length < 500000 := by omega
  clear G R hno HL hlv hqn
  go_enter Try.func181, Try.ntmps181
  go_wp2_with fail
  refine HNA.out.mono ?_
  rintro e w1 ⟨i0, rfl, hb, hN⟩
  have hi0 : i0 = 0 := by
    rcases hN with ⟨h1, h2⟩ | ⟨h1, _⟩
    · exact absurd h2 (HNO.out _ h1)
    · exact h1
  subst hi0
  clear hN
  have R1 := Go.Lib.hid (HR.out.keep hb)
  have HB := Go.Lib.hid hb
  have c1 := R1.out.hs.cell 1
  simp only [List.getElem?_cons_zero, List.getElem?_cons_succ] at c1
  clear hb c3
  go_wp2_with fail
  refine (alloc_any L.pa L.ba s.slots s.freed s.next s.live (total q) L.fv w1 HG.out.ai hsl hlv1 R1.out.fr R1.out.ha R1.out.ba).mono ?_
  rintro e w2 ⟨i, S1, fs1, nx1, fv1, ba1, rfl, hA⟩
  have HA := Go.Lib.hid hA
  have q2 := fun (b : Nat) (cs : List Value) (T : Nat) (h : Blk w1 b cs T) (h1 : T ≠ 189) (h2 : T ≠ 201) => HA.out.fr.blk (x := b) (cs := cs) (T := T) (by
    rintro (e | e)
    · exact h.ne R1.out.ha h1 e
    · exact h.ne R1.out.ba h2 e) h
  have HQ2 := Go.Lib.hid q2
  have c1' := (HQ2.out _ _ _ R1.out.hs (by decide) (by decide)).cell 1
  simp only [List.getElem?_cons_zero, List.getElem?_cons_succ] at c1'
  have hlen1 : S1.length < 1000000 := by
    rcases hA.len with h | ⟨h, h'⟩ <;> omega
  clear hA q2 c1
  go_wp2_with fail
  refine (set_yes L.pa ba1 S1 fv1 (.int .i64 nx1) (.int .i64 (s.live + 1)) i (kN k) w2 hlen1 (by rw [HA.out.tk.tk, if_pos rfl]) HA.out.ha HA.out.hb).mono ?_
  rintro e w3 ⟨rfl, hf3, hb3'⟩
  have HF3 := Go.Lib.hid hf3
  have HB3 := Go.Lib.hid hb3'
  have q3 := fun (b : Nat) (cs : List Value) (T : Nat) (h : Blk w2 b cs T) (h2 : T ≠ 201) => HF3.out.blk (x := b) (cs := cs) (T := T) (fun e => h.ne HA.out.hb h2 e) h
  have HQ3 := Go.Lib.hid q3
  have hs3 := HQ3.out _ _ _ (HQ2.out _ _ _ R1.out.hs (by decide) (by decide)) (by decide)
  have ht3 := HQ3.out _ _ _ (HQ2.out _ _ _ R1.out.ht (by decide) (by decide)) (by decide)
  have bt3 := HQ3.out _ _ _ (HQ2.out _ _ _ R1.out.bt (by decide) (by decide)) (by decide)
  have c2' := hs3.cell 2
  simp only [List.getElem?_cons_zero, List.getElem?_cons_succ] at c2'
  clear hf3 hb3' q3 c1'
  go_wp2_with fail
  refine (put_any L.pt L.bt k i w3 hk0 hk1 HG.out (fun v hv => HNO.out v ((HG.out.tin k v).1 hv).1 ((HG.out.tin k v).1 hv).2) ⟨ht3, bt3⟩).mono ?_
  rintro e w4 ⟨rfl, bt1, tab1, hob, hf4, ht4, hpu⟩
  have q4 := fun (b : Nat) (cs : List Value) (T : Nat) (h : Blk w3 b cs T) (h1 : T ≠ 195) (h2 : T ≠ 213) => hf4.blk (x := b) (cs := cs) (T := T) (by
    rintro (e | e)
    · exact h.ne ht3 h1 e
    · exact h.ne bt3 h2 e) h
  have hs4 := q4 _ _ _ hs3 (by decide) (by decide)
  have hl4 := q4 _ _ _ (HQ3.out _ _ _ (HQ2.out _ _ _ R1.out.hl (by decide) (by decide)) (by decide)) (by decide) (by decide)
  have bl4 := q4 _ _ _ (HQ3.out _ _ _ (HQ2.out _ _ _ R1.out.bl (by decide) (by decide)) (by decide)) (by decide) (by decide)
  have ha4 := q4 _ _ _ (HQ3.out _ _ _ HA.out.ha (by decide)) (by decide) (by decide)
  have ba4 := q4 _ _ _ HB3.out (by decide) (by decide)
  have fr3 : Frv w3 fv1 fs1 := HA.out.hf.frame HF3.out (fun k hk e => frv_ne HA.out.hf HA.out.hb (by decide) k hk e)
  have fr4 : Frv w4 fv1 fs1 := fr3.frame hf4 (by
    rintro k hk (e | e)
    · exact frv_ne fr3 ht3 (by decide) k hk e
    · exact frv_ne fr3 bt3 (by decide) k hk e)
  have sz1 := HB.out.size
  have sz2 := HA.out.fr.size
  have sz3 := HF3.out.size
  have F1 : Fr L.has w w2 := (Fr.of_below HB.out).trans (own := L.has) HA.out.fr (by
    rintro j (rfl | rfl)
    · exact .inl (by simp [Hop.Loc.has])
    · exact .inl (by simp [Hop.Loc.has]))
  have F2 : Fr L.has w w3 := F1.trans HF3.out (by
    rintro j rfl
    rcases HA.out.ob with h | h
    · exact .inl (by simp [Hop.Loc.has, h])
    · exact .inr (by omega))
  have F3 : Fr L.has w w4 := F2.trans hf4 (by
    rintro j (rfl | rfl)
    · exact .inl (by simp [Hop.Loc.has])
    · exact .inl (by simp [Hop.Loc.has]))
  have M : Mid L s q k w w4 i S1 fs1 nx1 fv1 ba1 bt1 tab1 := ⟨HA.out.tk, HA.out.ai, HA.out.len, hpu, F3, HA.out.own, HA.out.ob.imp id (fun h => by omega), hob.imp id (fun h => by omega),
    ⟨hs4, hl4, by rw [st_length]; exact ha4, ht4.ht, bl4, ba4, ht4.bt, fr4⟩⟩
  have HM := Go.Lib.hid M
  have c0' := hs4.cell 0
  simp only [List.getElem?_cons_zero, List.getElem?_cons_succ] at c0'
  clear M F1 F2 F3 fr4 fr3 ba4 ha4 bl4 hl4 hs4 q4 hf4 ht4 hpu hob c2' bt3 ht3 hs3
  go_wp2_with fail
  refine (HHL.out _ _ _ _ _ _ _ _ _ HM.out).mono ?_
  rintro e w' ⟨rfl, hQ⟩
  have HQ := Go.Lib.hid hQ
  clear hQ
  go_wp2_with fail
  go_ret
  exact ⟨rfl, HQ.out⟩
end
end Go.Proofs.Ytlakojncjldpbaa
