/- A key laid into a queue. -/
import Derived.Test.YtlakojncjldpbaaGEff
import Derived.Test.YtlakojncjldpbaaGNews
namespace Go.Proofs.Ytlakojncjldpbaa
open Go.RowKit Hop
set_option linter.unusedVariables false
set_option linter.unusedSimpArgs false
set_option maxRecDepth 100000
theorem frv_ne {w : World} {v : Value} {l : List Int} (h : Frv w v l) {b : Nat} {cs : List Value} {T : Nat} (hb : Blk w b cs T) (hT : 21 ≠ T) : ∀ k, v.ownBlock = some k → k ≠ b := by
  intro k hk
  obtain ⟨_, cs', h'⟩ := h.lt hk
  exact h'.ne hb hT
theorem Hop.SRep.relist {w w' : World} {L : Hop.Loc} {s : St} (h : SRep w L s) (hf : Fr (fun k => k = L.ba ∨ k = L.bl) w w') {S' : List Sl} {ls' : List Li} (H : LRep w' L.pl L.pa L.bl L.ba S' ls' L.fv (.int .i64 s.next) (.int .i64 s.live)) :
    SRep w' L { s with slots := S', lists := ls' } := by
  refine ⟨hf.blk ?_ h.hs, H.hl, H.ha, hf.blk ?_ h.ht, H.bl, H.ba, hf.blk ?_ h.bt, h.fr.frame hf ?_⟩
  · rintro (e | e)
    · exact h.hs.ne h.ba (by decide) e
    · exact h.hs.ne h.bl (by decide) e
  · rintro (e | e)
    · exact h.ht.ne h.ba (by decide) e
    · exact h.ht.ne h.bl (by decide) e
  · rintro (e | e)
    · exact h.bt.ne h.ba (by decide) e
    · exact h.bt.ne h.bl (by decide) e
  · rintro k hk (e | e)
    · exact frv_ne h.fr h.ba (by decide) k hk e
    · exact frv_ne h.fr h.bl (by decide) k hk e
section
variable {L : Hop.Loc} {s : St} {q : List (List Int)} {p : Nat}
theorem put_any (pt bt : Nat) (k v : Int) (w : World) (hk0 : 0 ≤ k) (hk1 : k < 18446744073709551616) (G : Good s q p) (hno : ∀ v, ¬ Tin s.tab k v) (h : TRep w pt bt s.tab s.many) :
    Calls Try.prog 218 #[P0 pt, .int .u64 k, .int .i32 v] w fun e w' => e = .returned (.tuple #[]) ∧ ∃ bt' t', (bt' = bt ∨ w.heap.size ≤ bt') ∧ Fr (fun x => x = pt ∨ x = bt) w w' ∧ TRep w' pt bt' t' (s.many + 1) ∧ Puts s.tab t' k v := by
  have hb2 := G.b2
  have hb4 := G.b4
  have hm : s.many = cnt s.tab := by rw [G.mn, G.cn]
  rw [hm] at h ⊢
  by_cases hroom : 4 * (cnt s.tab + 1) ≤ 3 * s.tab.length
  · refine (put_room pt bt s.tab k v w hk0 hk1 G.p2 (by omega) G.ti hno hroom h).mono ?_
    rintro e w' ⟨rfl, t', hf, ht, hp⟩
    exact ⟨rfl, bt, t', .inl rfl, hf, ht, hp⟩
  · refine (put_grow pt bt s.tab k v w hk0 hk1 G.p2 (by omega) G.ti hno (by omega) G.fit G.keys h).mono ?_
    rintro e w' ⟨rfl, bt', t', hge, hf, ht, hp⟩
    exact ⟨rfl, bt', t', .inr hge, hf, ht, hp⟩
/-- Ahead of the laying: the slot is taken, the key is in the table. -/
structure Mid (L : Hop.Loc) (s : St) (q : List (List Int)) (k : Int) (w w1 : World) (i : Int) (S1 : List Sl) (fs1 : List Int) (nx1 : Int) (fv1 : Value) (ba1 bt1 : Nat) (tab1 : List Ts) : Prop where
  tk : Took s.slots S1 i
  ai : AI S1 fs1 nx1 (total q + 1)
  len : S1.length = s.slots.length ∨ (S1.length = 2 * s.slots.length ∧ s.slots.length = total q + 1)
  puts : Puts s.tab tab1 k i
  fr : Fr L.has w w1
  own : fv1.ownBlock = L.fv.ownBlock
  oba : ba1 = L.ba ∨ w.heap.size ≤ ba1
  obt : bt1 = L.bt ∨ w.heap.size ≤ bt1
  rep : SRep w1 { L with ba := ba1, bt := bt1, fv := fv1 } ⟨st S1 i ⟨kN k, true⟩, fs1, nx1, s.live + 1, s.lists, tab1, s.many + 1, s.queues⟩
set_option maxHeartbeats 1600000 in
theorem push_any (K t : Nat) (k : Int) (w : World) (Q : World → Prop) (hK : ∀ args W, (callFunc K args).run Try.prog W = .ok (.enter K args) W) (hk0 : 0 ≤ k) (hk1 : k < 18446744073709551616) (ht : t < q.length) (R : SRep w L s) (G : Good s q p)
    (hno : ∀ j, isT s.slots j = true → (ndT s.slots j).key ≠ k)
    (HL : ∀ w1 i S1 fs1 nx1 fv1 ba1 bt1 tab1, Mid L s q k w w1 i S1 fs1 nx1 fv1 ba1 bt1 tab1 → Calls Try.prog K #[P0 L.pl, .int .i64 t, .int .i32 i] w1 fun e w' => e = .returned (.bool true) ∧ Q w') :
    Calls Try.prog 181 #[P0 L.ps, .int .i64 t, .int .u64 k, .func (.func K) #[] #[]] w fun e w' => e = .returned (.bool true) ∧ Q w' := by
  have c3 := R.hs.cell 3
  simp only [List.getElem?_cons_zero, List.getElem?_cons_succ] at c3
  have hqn := G.qn
  have hq8 := G.q8
  have hlv := G.lv
  have hb1 := G.b1
  have hb3 := G.b3
  have hb4 := G.b4
  have HNA := Go.Lib.hid (node_any k w hk0 hk1 R G)
  have HG := Go.Lib.hid G
  have HR := Go.Lib.hid R
  have HNO := Go.Lib.hid hno
  have HHL := Go.Lib.hid HL
  have HKK := hK
  have hqq : (t : Int) < s.queues := by omega
  have hqs : s.queues ≤ 8 := by omega
  have hlv1 : 0 ≤ s.live ∧ s.live < 1000000 := by omega
  have hsl : s.slots.length < 500000 := by omega
  clear G R hno HL hlv hqn
  go_enter Try.func181, Try.ntmps181
  go_wp2_with fail
  refine HNA.out.mono ?_
  rintro e w1 ⟨i0, rfl, hb, hN⟩
  have hi0 : i0 = 0 := by
    rcases hN with ⟨h1, h2⟩ | ⟨h1, _⟩
    · exact absurd h2 (HNO.out _ h1)
    · exact h1
  subst hi0
  clear hN
  have R1 := Go.Lib.hid (HR.out.keep hb)
  have HB := Go.Lib.hid hb
  have c1 := R1.out.hs.cell 1
  simp only [List.getElem?_cons_zero, List.getElem?_cons_succ] at c1
  clear hb c3
  go_wp2_with fail
  refine (alloc_any L.pa L.ba s.slots s.freed s.next s.live (total q) L.fv w1 HG.out.ai hsl hlv1 R1.out.fr R1.out.ha R1.out.ba).mono ?_
  rintro e w2 ⟨i, S1, fs1, nx1, fv1, ba1, rfl, hA⟩
  have HA := Go.Lib.hid hA
  have q2 := fun (b : Nat) (cs : List Value) (T : Nat) (h : Blk w1 b cs T) (h1 : T ≠ 189) (h2 : T ≠ 201) => HA.out.fr.blk (x := b) (cs := cs) (T := T) (by
    rintro (e | e)
    · exact h.ne R1.out.ha h1 e
    · exact h.ne R1.out.ba h2 e) h
  have HQ2 := Go.Lib.hid q2
  have c1' := (HQ2.out _ _ _ R1.out.hs (by decide) (by decide)).cell 1
  simp only [List.getElem?_cons_zero, List.getElem?_cons_succ] at c1'
  have hlen1 : S1.length < 1000000 := by
    rcases hA.len with h | ⟨h, h'⟩ <;> omega
  clear hA q2 c1
  go_wp2_with fail
  refine (set_yes L.pa ba1 S1 fv1 (.int .i64 nx1) (.int .i64 (s.live + 1)) i (kN k) w2 hlen1 (by rw [HA.out.tk.tk, if_pos rfl]) HA.out.ha HA.out.hb).mono ?_
  rintro e w3 ⟨rfl, hf3, hb3'⟩
  have HF3 := Go.Lib.hid hf3
  have HB3 := Go.Lib.hid hb3'
  have q3 := fun (b : Nat) (cs : List Value) (T : Nat) (h : Blk w2 b cs T) (h2 : T ≠ 201) => HF3.out.blk (x := b) (cs := cs) (T := T) (fun e => h.ne HA.out.hb h2 e) h
  have HQ3 := Go.Lib.hid q3
  have hs3 := HQ3.out _ _ _ (HQ2.out _ _ _ R1.out.hs (by decide) (by decide)) (by decide)
  have ht3 := HQ3.out _ _ _ (HQ2.out _ _ _ R1.out.ht (by decide) (by decide)) (by decide)
  have bt3 := HQ3.out _ _ _ (HQ2.out _ _ _ R1.out.bt (by decide) (by decide)) (by decide)
  have c2' := hs3.cell 2
  simp only [List.getElem?_cons_zero, List.getElem?_cons_succ] at c2'
  clear hf3 hb3' q3 c1'
  go_wp2_with fail
  refine (put_any L.pt L.bt k i w3 hk0 hk1 HG.out (fun v hv => HNO.out v ((HG.out.tin k v).1 hv).1 ((HG.out.tin k v).1 hv).2) ⟨ht3, bt3⟩).mono ?_
  rintro e w4 ⟨rfl, bt1, tab1, hob, hf4, ht4, hpu⟩
  have q4 := fun (b : Nat) (cs : List Value) (T : Nat) (h : Blk w3 b cs T) (h1 : T ≠ 195) (h2 : T ≠ 213) => hf4.blk (x := b) (cs := cs) (T := T) (by
    rintro (e | e)
    · exact h.ne ht3 h1 e
    · exact h.ne bt3 h2 e) h
  have hs4 := q4 _ _ _ hs3 (by decide) (by decide)
  have hl4 := q4 _ _ _ (HQ3.out _ _ _ (HQ2.out _ _ _ R1.out.hl (by decide) (by decide)) (by decide)) (by decide) (by decide)
  have bl4 := q4 _ _ _ (HQ3.out _ _ _ (HQ2.out _ _ _ R1.out.bl (by decide) (by decide)) (by decide)) (by decide) (by decide)
  have ha4 := q4 _ _ _ (HQ3.out _ _ _ HA.out.ha (by decide)) (by decide) (by decide)
  have ba4 := q4 _ _ _ HB3.out (by decide) (by decide)
  have fr3 : Frv w3 fv1 fs1 := HA.out.hf.frame HF3.out (fun k hk e => frv_ne HA.out.hf HA.out.hb (by decide) k hk e)
  have fr4 : Frv w4 fv1 fs1 := fr3.frame hf4 (by
    rintro k hk (e | e)
    · exact frv_ne fr3 ht3 (by decide) k hk e
    · exact frv_ne fr3 bt3 (by decide) k hk e)
  have sz1 := HB.out.size
  have sz2 := HA.out.fr.size
  have sz3 := HF3.out.size
  have F1 : Fr L.has w w2 := (Fr.of_below HB.out).trans (own := L.has) HA.out.fr (by
    rintro j (rfl | rfl)
    · exact .inl (by simp [Hop.Loc.has])
    · exact .inl (by simp [Hop.Loc.has]))
  have F2 : Fr L.has w w3 := F1.trans HF3.out (by
    rintro j rfl
    rcases HA.out.ob with h | h
    · exact .inl (by simp [Hop.Loc.has, h])
    · exact .inr (by omega))
  have F3 : Fr L.has w w4 := F2.trans hf4 (by
    rintro j (rfl | rfl)
    · exact .inl (by simp [Hop.Loc.has])
    · exact .inl (by simp [Hop.Loc.has]))
  have M : Mid L s q k w w4 i S1 fs1 nx1 fv1 ba1 bt1 tab1 := ⟨HA.out.tk, HA.out.ai, HA.out.len, hpu, F3, HA.out.own, HA.out.ob.imp id (fun h => by omega), hob.imp id (fun h => by omega),
    ⟨hs4, hl4, by rw [st_length]; exact ha4, ht4.ht, bl4, ba4, ht4.bt, fr4⟩⟩
  have HM := Go.Lib.hid M
  have c0' := hs4.cell 0
  simp only [List.getElem?_cons_zero, List.getElem?_cons_succ] at c0'
  clear M F1 F2 F3 fr4 fr3 ba4 ha4 bl4 hl4 hs4 q4 hf4 ht4 hpu hob c2' bt3 ht3 hs3
  go_wp2_with fail
  refine (HHL.out _ _ _ _ _ _ _ _ _ HM.out).mono ?_
  rintro e w' ⟨rfl, hQ⟩
  have HQ := Go.Lib.hid hQ
  clear hQ
  go_wp2_with fail
  go_ret
  exact ⟨rfl, HQ.out⟩
end
end Go.Proofs.Ytlakojncjldpbaa

namespace Go.Proofs.Ytlakojncjldpbaa
open Go.RowKit Hop
set_option linter.unusedVariables false
set_option linter.unusedSimpArgs false
set_option maxRecDepth 100000
/-- Queues of entries lie at a pointer; these blocks are theirs. -/
def Sta (w : World) (ps : Nat) (O : Nat → Prop) (Q : List (List En)) (p : Nat) : Prop := ∃ (L : Hop.Loc) (s : St) (q : List (List Int)), L.ps = ps ∧ L.has = O ∧ SRep w L s ∧ Good s q p ∧ vw s.slots q = Q
/-- A call turned these blocks; what is theirs now was theirs, or is new. -/
structure Chg (O O' : Nat → Prop) (w w' : World) : Prop where
  fr : Fr O w w'
  own : ∀ k, O' k → O k ∨ w.heap.size ≤ k
theorem Chg.refl (O : Nat → Prop) (w : World) : Chg O O w w := ⟨Fr.refl _ _, fun _ h => .inl h⟩
theorem Chg.trans {O O' O'' : Nat → Prop} {a b c : World} (h : Chg O O' a b) (k : Chg O' O'' b c) : Chg O O'' a c :=
  ⟨h.fr.trans k.fr h.own, fun i hi => (k.own i hi).elim (h.own i) (fun hge => .inr (Nat.le_trans h.fr.size hge))⟩
theorem Chg.of_below {O : Nat → Prop} {a b : World} (h : Below a.heap.size a b) : Chg O O a b := ⟨Fr.of_below h, fun _ h => .inl h⟩
theorem Chg.below {O O' : Nat → Prop} {a b c : World} (h : Chg O O' a b) (k : Below b.heap.size b c) : Chg O O' a c := h.trans (Chg.of_below k)
theorem Chg.not {O O' : Nat → Prop} {a b : World} (h : Chg O O' a b) {x : Nat} (hx : x < a.heap.size) (hn : ¬ O x) : ¬ O' x := fun ho => (h.own x ho).elim hn (fun hge => by omega)
theorem Chg.blk {O O' : Nat → Prop} {a b : World} (h : Chg O O' a b) {x : Nat} {cs : List Value} {T : Nat} (hn : ¬ O x) (hb : Blk a x cs T) : Blk b x cs T := h.fr.blk hn hb
theorem Sta.keep {w w' : World} {ps : Nat} {O : Nat → Prop} {Q : List (List En)} {p : Nat} (h : Sta w ps O Q p) (hb : Below w.heap.size w w') : Sta w' ps O Q p := by
  obtain ⟨L, s, q, h1, h2, R, h3⟩ := h
  exact ⟨L, s, q, h1, h2, R.keep hb, h3⟩
theorem Sta.frame {w w' : World} {ps : Nat} {O : Nat → Prop} {Q : List (List En)} {p : Nat} (h : Sta w ps O Q p) {own : Nat → Prop} (hf : Fr own w w') (hn : ∀ k, O k → ¬ own k) : Sta w' ps O Q p := by
  obtain ⟨L, s, q, h1, h2, R, h3⟩ := h
  subst h2
  exact ⟨L, s, q, h1, rfl, R.frame hf hn, h3⟩
theorem Sta.lt {w : World} {ps : Nat} {O : Nat → Prop} {Q : List (List En)} {p : Nat} (h : Sta w ps O Q p) {k : Nat} (hk : O k) : k < w.heap.size := by
  obtain ⟨L, s, q, h1, h2, R, h3⟩ := h
  subst h2
  exact R.lt hk
theorem Sta.ps {w : World} {ps : Nat} {O : Nat → Prop} {Q : List (List En)} {p : Nat} (h : Sta w ps O Q p) : O ps := by
  obtain ⟨L, s, q, h1, h2, R, h3⟩ := h
  subst h2; subst h1
  exact .inl rfl
/-- How many all queues have. -/
def tot (Q : List (List En)) : Nat := (Q.map List.length).sum
theorem tot_vw (S : List Sl) (q : List (List Int)) : tot (vw S q) = total q := by
  unfold tot vw total
  rw [List.map_map]
  congr 1
  exact List.map_congr_left (fun l _ => by simp)
def hasK (Q : List (List En)) (k : Int) : Prop := ∃ l ∈ Q, ∃ e ∈ l, e.key = k
theorem hasK_vw {s : St} {q : List (List Int)} {p : Nat} (G : Good s q p) (k : Int) : hasK (vw s.slots q) k ↔ ∃ j, isT s.slots j = true ∧ (ndT s.slots j).key = k := by
  unfold hasK vw
  constructor
  · rintro ⟨l, hl, e, he, rfl⟩
    obtain ⟨l0, h0, rfl⟩ := List.mem_map.1 hl
    obtain ⟨i, hi, rfl⟩ := List.mem_map.1 he
    exact ⟨i, (G.tk i).2 (inQ_mem.2 ⟨l0, h0, hi⟩), rfl⟩
  · rintro ⟨j, hj, rfl⟩
    obtain ⟨l, hl, hi⟩ := inQ_mem.1 ((G.tk j).1 hj)
    exact ⟨_, List.mem_map_of_mem hl, _, List.mem_map_of_mem hi, rfl⟩
/-- What is known of the queues. -/
structure Qok (Q : List (List En)) (p : Nat) : Prop where
  len : 1 ≤ Q.length ∧ Q.length ≤ 8
  nd : (Q.flatten.map En.key).Nodup
  ks : ∀ l ∈ Q, ∀ e ∈ l, 0 ≤ e.key ∧ e.key < 18446744073709551616
  tot : tot Q ≤ p
  p4 : p < 50000
theorem LG.flat {S : List Sl} {ls : List Li} {q : List (List Int)} (G : LG S ls q) : q.flatten.Nodup := by
  refine List.pairwise_flatten.2 ⟨?_, ?_⟩
  · intro l hl
    obtain ⟨t, ht, rfl⟩ := List.getElem_of_mem hl
    have := G.nd t ht
    rwa [List.getD_eq_getElem?_getD, List.getElem?_eq_getElem ht] at this
  · rw [List.pairwise_iff_getElem]
    intro i j hi hj hij x hx y hy e
    subst e
    have := G.uniq (i := x) hi hj (by rw [List.getD_eq_getElem?_getD, List.getElem?_eq_getElem hi]; exact hx) (by rw [List.getD_eq_getElem?_getD, List.getElem?_eq_getElem hj]; exact hy)
    omega
theorem Good.qok {s : St} {q : List (List Int)} {p : Nat} (G : Good s q p) : Qok (vw s.slots q) p := by
  refine ⟨by unfold vw; rw [List.length_map]; exact G.q8, ?_, ?_, by rw [tot_vw]; exact G.b3, G.b4⟩
  · have e : (vw s.slots q).flatten.map En.key = q.flatten.map (fun i => (ndT s.slots i).key) := by
      unfold vw
      rw [← List.map_flatten, List.map_map]
      rfl
    rw [e]
    refine List.pairwise_map.2 (List.Pairwise.imp_of_mem ?_ G.gl.flat)
    intro a b ha hb hne he
    obtain ⟨l1, h1, h2⟩ := List.mem_flatten.1 ha
    obtain ⟨l3, h3, h4⟩ := List.mem_flatten.1 hb
    exact hne (G.one ((G.tk a).2 (inQ_mem.2 ⟨l1, h1, h2⟩)) ((G.tk b).2 (inQ_mem.2 ⟨l3, h3, h4⟩)) he)
  · intro l hl e he
    unfold vw at hl
    obtain ⟨l0, h0, rfl⟩ := List.mem_map.1 hl
    obtain ⟨i, hi, rfl⟩ := List.mem_map.1 he
    exact G.ks i ((G.tk i).2 (inQ_mem.2 ⟨l0, h0, hi⟩))
theorem Sta.qok {w : World} {ps : Nat} {O : Nat → Prop} {Q : List (List En)} {p : Nat} (h : Sta w ps O Q p) : Qok Q p := by
  obtain ⟨L, s, q, h1, h2, R, G, rfl⟩ := h
  exact G.qok
section
variable {ps : Nat} {O : Nat → Prop} {Q : List (List En)} {p : Nat}
theorem find_sta (k : Int) (w : World) (hk0 : 0 ≤ k) (hk1 : k < 18446744073709551616) (H : Sta w ps O Q p) :
    Calls Try.prog 118 #[P0 ps, .int .u64 k] w fun e w' => ∃ (t : Nat) (ok : Bool), e = .returned (.tuple #[.int .i64 t, .bool ok]) ∧ Below w.heap.size w w' ∧
      ((ok = true ∧ t < Q.length ∧ ∃ e ∈ Q.getD t [], e.key = k) ∨ (ok = false ∧ t = 0 ∧ ¬ hasK Q k)) := by
  obtain ⟨L, s, q, rfl, rfl, R, G, rfl⟩ := H
  refine (find_key k w hk0 hk1 R G).mono ?_
  rintro e w' ⟨t, ok, rfl, hb, h⟩
  refine ⟨t, ok, rfl, hb, ?_⟩
  rcases h with ⟨h1, h2, i, hi, h3⟩ | ⟨h1, h2, h3⟩
  · exact .inl ⟨h1, by unfold vw; rw [List.length_map]; exact h2, en s.slots i, by rw [vw_getD]; exact List.mem_map_of_mem hi, h3⟩
  · refine .inr ⟨h1, h2, fun h => ?_⟩
    obtain ⟨j, hj, hk⟩ := (hasK_vw G k).1 h
    exact h3 j hj hk
theorem back_sta (t : Nat) (w : World) (ht : t < Q.length) (H : Sta w ps O Q p) :
    Calls Try.prog 180 #[P0 ps, .int .i64 t] w fun e w' => ∃ (k : Int) (ok : Bool), e = .returned (.tuple #[.int .u64 k, .bool ok]) ∧ Below w.heap.size w w' ∧
      ((ok = false ∧ k = 0 ∧ Q.getD t [] = []) ∨ (ok = true ∧ ∃ l e, Q.getD t [] = l ++ [e] ∧ k = e.key)) := by
  obtain ⟨L, s, q, rfl, rfl, R, G, rfl⟩ := H
  have ht' : t < q.length := by unfold vw at ht; rwa [List.length_map] at ht
  refine (sback_any t w ht' R G).mono ?_
  rintro e w' ⟨rfl, hb⟩
  refine ⟨_, _, rfl, hb, ?_⟩
  rw [vw_getD]
  rcases List.eq_nil_or_concat (q.getD t []) with h | ⟨l, x, h⟩
  · rw [h]
    exact .inl ⟨rfl, rfl, rfl⟩
  · rw [List.concat_eq_append] at h
    have hx := isT_ne0 (G.gl.tag ht' (by rw [h]; simp : x ∈ q.getD t [])).1
    rw [h, lsD_append]
    refine .inr ⟨by simp [lsD, hx], l.map (en s.slots), en s.slots x, by simp, rfl⟩
theorem len_sta (t : Nat) (w : World) (ht : t < Q.length) (H : Sta w ps O Q p) :
    Calls Try.prog 128 #[P0 ps, .int .i64 t] w fun e w' => e = .returned (.int .i64 (Q.getD t []).length) ∧ w = w' := by
  obtain ⟨L, s, q, rfl, rfl, R, G, rfl⟩ := H
  have ht' : t < q.length := by unfold vw at ht; rwa [List.length_map] at ht
  have h := slen_any t w ht' R G
  rw [vw_getD, List.length_map]
  exact h
theorem total_sta (w : World) (H : Sta w ps O Q p) :
    Calls Try.prog 179 #[P0 ps] w fun e w' => e = .returned (.int .i64 (tot Q)) ∧ w = w' := by
  obtain ⟨L, s, q, rfl, rfl, R, G, rfl⟩ := H
  rw [tot_vw]
  exact total_any w R G
theorem rooms_sta (w : World) (H : Sta w ps O Q p) :
    Calls Try.prog 117 #[P0 ps] w fun e w' => ∃ a b : Nat, e = .returned (.tuple #[.int .i64 a, .int .i64 b]) ∧ Below w.heap.size w w' ∧ tot Q ≤ a ∧ tot Q ≤ b ∧ a ≤ 8 + 2 * p ∧ 3 * b ≤ 24 + 8 * p ∧ (a % 8 = 0 ∧ 8 ≤ a ∧ b % 8 = 0 ∧ 8 ≤ b) := by
  obtain ⟨L, s, q, rfl, rfl, R, G, rfl⟩ := H
  refine (srooms_any w R G).mono ?_
  rintro e w' ⟨rfl, hb⟩
  have h1 := G.ai.cn
  have h2 := G.ai.hi
  have h3 := G.cn
  have h4 := cnt_le s.tab
  rw [tot_vw]
  exact ⟨_, _, rfl, hb, by omega, by omega, G.b1, G.b2, G.b5⟩
theorem pushfront_sta (t : Nat) (k : Int) (w : World) (hk0 : 0 ≤ k) (hk1 : k < 18446744073709551616) (ht : t < Q.length) (hp : p < 49999) (hno : ¬ hasK Q k) (H : Sta w ps O Q p) :
    Calls Try.prog 122 #[P0 ps, .int .i64 t, .int .u64 k] w fun e w' => e = .returned (.bool true) ∧ ∃ O', Sta w' ps O' (ins Q t ⟨k, 0, 0⟩) (max p (tot Q + 1)) ∧ Chg O O' w w' := by
  obtain ⟨L, s, q, rfl, rfl, R, G, rfl⟩ := H
  have ht' : t < q.length := by unfold vw at ht; rwa [List.length_map] at ht
  have hno' : ∀ j, isT s.slots j = true → (ndT s.slots j).key ≠ k := fun j hj hk => hno ((hasK_vw G k).2 ⟨j, hj, hk⟩)
  have hll := G.gl.len
  have h8 := G.q8
  have hb1 := G.b1
  have hb3 := G.b3
  rw [tot_vw]
  have PA := push_any (L := L) 182 t k w (fun w' => ∃ O', Sta w' L.ps O' (ins (vw s.slots q) t ⟨k, 0, 0⟩) (max p (total q + 1)) ∧ Chg L.has O' w w') (by intro args W; kernel_rfl) hk0 hk1 ht' R G hno' (by
    intro w1 i S1 fs1 nx1 fv1 ba1 bt1 tab1 M
    have hl1 : S1.length ≤ 8 + 2 * (max p (total q + 1)) := by
      rcases M.len with h | ⟨h, h'⟩ <;> omega
    obtain ⟨g1, g2, g3, g4, g5, g6, G', gv⟩ := G.push ht' hk0 hk1 hno' M.tk M.ai hl1 (M.len.imp id And.left) rfl M.puts hp
    rw [← g3] at G' gv g4
    refine (pushfront_yes L.pl L.pa L.bl ba1 _ s.lists _ _ _ t i w1 (by rw [st_length]; omega) (by omega) (by omega) M.rep.lrep g1 g2 g4 ⟨g5, g6⟩).mono ?_
    rintro e w' ⟨rfl, hf, H'⟩
    have R' := M.rep.relist hf H'
    refine ⟨rfl, _, ⟨{ L with ba := ba1, bt := bt1, fv := fv1 }, _, _, rfl, rfl, R', G', gv⟩, ?_, ?_⟩
    · refine M.fr.trans hf ?_
      rintro j (rfl | rfl)
      · rcases M.oba with h | h
        · exact .inl (by simp [Hop.Loc.has, h])
        · exact .inr h
      · exact .inl (by simp [Hop.Loc.has])
    · rintro j (h | h | h | h | h | h | h | h)
      · exact .inl (.inl h)
      · exact .inl (.inr (.inl h))
      · exact .inl (.inr (.inr (.inl h)))
      · exact .inl (.inr (.inr (.inr (.inl h))))
      · exact .inl (.inr (.inr (.inr (.inr (.inl h)))))
      · rcases M.oba with h' | h'
        · exact .inl (.inr (.inr (.inr (.inr (.inr (.inl (h.trans h')))))))
        · exact .inr (by rw [h]; exact h')
      · rcases M.obt with h' | h'
        · exact .inl (.inr (.inr (.inr (.inr (.inr (.inr (.inl (h.trans h'))))))))
        · exact .inr (by rw [h]; exact h')
      · exact .inl (.inr (.inr (.inr (.inr (.inr (.inr (.inr (M.own.symm.trans h)))))))))
  have HPA := Go.Lib.hid PA
  clear PA G R hno hno' hll h8 hb1 hb3
  go_enter Try.func122, Try.ntmps122
  go_wp2_with fail
  refine HPA.out.mono ?_
  rintro e w' ⟨rfl, hQ⟩
  have HQ := Go.Lib.hid hQ
  clear hQ
  go_wp2_with fail
  go_ret
  exact ⟨rfl, HQ.out⟩
end
end Go.Proofs.Ytlakojncjldpbaa
