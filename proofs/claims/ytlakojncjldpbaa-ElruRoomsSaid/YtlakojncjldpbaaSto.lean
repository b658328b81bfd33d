/- The store's reads. -/
import Derived.Test.YtlakojncjldpbaaAlc
import Derived.Test.YtlakojncjldpbaaAll
import Derived.Test.YtlakojncjldpbaaTDel
namespace Go.Proofs.Ytlakojncjldpbaa
open Go.RowKit Hop
set_option linter.unusedVariables false
set_option linter.unusedSimpArgs false
set_option maxRecDepth 100000
theorem Hop.SRep.lrep {w : World} {L : Hop.Loc} {s : St} (h : SRep w L s) : LRep w L.pl L.pa L.bl L.ba s.slots s.lists L.fv (.int .i64 s.next) (.int .i64 s.live) := ⟨h.hl, h.ha, h.bl, h.ba⟩
theorem Hop.SRep.trep {w : World} {L : Hop.Loc} {s : St} (h : SRep w L s) : TRep w L.pt L.bt s.tab s.many := ⟨h.ht, h.bt⟩
/-- A key's node, or none. -/
def Nod (s : St) (k i : Int) : Prop := (isT s.slots i = true ∧ (ndT s.slots i).key = k) ∨ (i = 0 ∧ ∀ j, isT s.slots j = true → (ndT s.slots j).key ≠ k)
theorem Good.nod {s : St} {q : List (List Int)} {p : Nat} (G : Good s q p) {k r : Int} (F : Fnd hmF s.tab k r) : Nod s k (tg s.tab r).num := by
  have h := hmF_lt G.p2 k
  by_cases hx : ∃ v, Tin s.tab k v
  · obtain ⟨v, hv⟩ := hx
    obtain ⟨_, _, h3⟩ := F.hit G.ti h.1 h.2 hv
    rw [h3]
    exact .inl ((G.tin k v).1 hv)
  · have hx' : ∀ v, ¬ Tin s.tab k v := fun v hv => hx ⟨v, hv⟩
    have h1 := F.miss hx'
    exact .inr ⟨G.ti.zero r F.lo F.hi h1, fun j hj e => hx' j ((G.tin k j).2 ⟨hj, e⟩)⟩
section
variable {L : Hop.Loc} {s : St} {q : List (List Int)} {p : Nat}
set_option maxHeartbeats 800000 in
theorem node_any (k : Int) (w : World) (hk0 : 0 ≤ k) (hk1 : k < 18446744073709551616) (R : SRep w L s) (G : Good s q p) :
    Calls Try.prog 173 #[P0 L.ps, .int .u64 k] w fun e w' => ∃ i, e = .returned (.int .i32 i) ∧ Below w.heap.size w w' ∧ Nod s k i := by
  have hpos := G.p2.pos
  have hfit := G.fit
  have hee : ∃ e : Int, 0 ≤ e ∧ e < s.tab.length ∧ (tg s.tab e).full = false := exists_empty (by omega)
  obtain ⟨r, hr⟩ := Fnd.ex (hm := hmF) k (hmF_lt G.p2 _).1 (hmF_lt G.p2 _).2 hee
  have HN := Go.Lib.hid (G.nod hr)
  have c0 := R.hs.cell 0
  have c1 := R.hs.cell 1
  have c2 := R.hs.cell 2
  simp only [List.getElem?_cons_zero, List.getElem?_cons_succ] at c0 c1 c2
  have GA := get_at L.pt L.bt s.tab s.many k r w hk0 hk1 G.p2 R.trep hee hr
  have HGA := Go.Lib.hid GA
  clear GA hr hee hfit hpos
  go_enter Try.func173, Try.ntmps173
  go_wp2_with fail
  refine HGA.out.mono ?_
  rintro e w1 ⟨rfl, hb⟩
  go_wp2_with fail
  go_ret
  exact ⟨_, rfl, hb, HN.out⟩
set_option maxHeartbeats 800000 in
theorem skey_any (i : Int) (w : World) (hi : i ≤ 2147483647) (R : SRep w L s) (G : Good s q p) :
    Calls Try.prog 214 #[P0 L.ps, .int .i32 i] w fun e w' => e = .returned (.tuple #[.int .u64 (ndT s.slots i).key, .bool (i != 0)]) ∧ Below w.heap.size w w' := by
  have c1 := R.hs.cell 1
  simp only [List.getElem?_cons_zero, List.getElem?_cons_succ] at c1
  have hb1 := G.b1
  have hb4 := G.b4
  have AT := at_any L.pa L.ba s.slots L.fv (.int .i64 s.next) (.int .i64 s.live) i w hi (by omega) R.ha R.ba
  have HAT := Go.Lib.hid AT
  clear AT hb1 hb4
  generalize ndT s.slots i = x at *
  obtain ⟨k, v, fl, tg, pv, nt⟩ := x
  simp only [encN] at HAT
  have nf := node_key
  go_enter Try.func214, Try.ntmps214
  go_wp2_with fail
  refine HAT.out.mono ?_
  rintro e w1 ⟨rfl, hb⟩
  go_wp2_with fail
  go_ret2
  exact ⟨by simp [bne], hb⟩
set_option maxHeartbeats 800000 in
theorem sback_any (t : Nat) (w : World) (ht : t < q.length) (R : SRep w L s) (G : Good s q p) :
    Calls Try.prog 180 #[P0 L.ps, .int .i64 t] w fun e w' => e = .returned (.tuple #[.int .u64 (ndT s.slots (lsD 0 (q.getD t []))).key, .bool (lsD 0 (q.getD t []) != 0)]) ∧ Below w.heap.size w w' := by
  have c0 := R.hs.cell 0
  simp only [List.getElem?_cons_zero, List.getElem?_cons_succ] at c0
  have hd := G.gl.hd t ht
  have hll := G.gl.len
  have h8 := G.q8
  have hb1 := G.b1
  have hb4 := G.b4
  have hle : lsD 0 (q.getD t []) ≤ 2147483647 := by
    by_cases hn : q.getD t [] = []
    · rw [hn]; decide
    · have := isT_lt (G.gl.tag ht (lsD_mem 0 _ hn)).1
      omega
  have HB := Go.Lib.hid (back_yes L.pl L.pa L.bl L.ba s.slots s.lists L.fv (.int .i64 s.next) (.int .i64 s.live) t w (by omega) (by omega) R.lrep)
  rw [hd] at HB
  have HK := Go.Lib.hid (skey_any (L := L) (lsD 0 (q.getD t [])) w hle R G)
  clear hd hll h8 hb1 hb4 hle G
  simp only at HB
  generalize lsD 0 (q.getD t []) = b at *
  go_enter Try.func180, Try.ntmps180
  go_wp2_with fail
  refine HB.out.mono ?_
  rintro e w1 ⟨rfl, rfl⟩
  go_wp2_with fail
  refine HK.out.mono ?_
  rintro e w1 ⟨rfl, hb⟩
  go_wp2_with fail
  go_ret2
  exact ⟨rfl, hb⟩
set_option maxHeartbeats 800000 in
theorem slen_any (t : Nat) (w : World) (ht : t < q.length) (R : SRep w L s) (G : Good s q p) :
    Calls Try.prog 128 #[P0 L.ps, .int .i64 t] w fun e w' => e = .returned (.int .i64 (q.getD t []).length) ∧ w = w' := by
  have c0 := R.hs.cell 0
  simp only [List.getElem?_cons_zero, List.getElem?_cons_succ] at c0
  have hd := G.gl.hd t ht
  have hll := G.gl.len
  have h8 := G.q8
  have HB := Go.Lib.hid (llen_yes L.pl L.pa L.bl L.ba s.slots s.lists L.fv (.int .i64 s.next) (.int .i64 s.live) t w (by omega) (by omega) R.lrep)
  rw [hd] at HB
  simp only at HB
  clear hd hll h8 G
  generalize (q.getD t []).length = m at *
  go_enter Try.func128, Try.ntmps128
  go_wp2_with fail
  refine HB.out.mono ?_
  rintro e w1 ⟨rfl, rfl⟩
  go_wp2_with fail
  go_ret
  exact ⟨rfl, rfl⟩
set_option maxHeartbeats 800000 in
theorem tlen_any (pt bt : Nat) (t : List Ts) (many : Int) (w : World) (h : TRep w pt bt t many) :
    Calls Try.prog 213 #[P0 pt] w fun e w' => e = .returned (.int .i64 many) ∧ w = w' := by
  have c1 := h.ht.cell 1
  simp only [List.getElem?_cons_zero, List.getElem?_cons_succ] at c1
  go_enter Try.func213, Try.ntmps213
  go_wp2_with fail
  go_ret
  exact ⟨rfl, rfl⟩
set_option maxHeartbeats 800000 in
theorem tslots_any (pt bt : Nat) (t : List Ts) (many : Int) (w : World) (h : TRep w pt bt t many) (hl : t.length < 1000000) :
    Calls Try.prog 172 #[P0 pt] w fun e w' => e = .returned (.int .i64 t.length) ∧ w' = w := by
  have c1 := h.ht.cell 0
  simp only [List.getElem?_cons_zero, List.getElem?_cons_succ] at c1
  go_enter Try.func172, Try.ntmps172
  go_wp2_with fail
  go_ret
  exact ⟨rfl, rfl⟩
set_option maxHeartbeats 800000 in
theorem alen_any (pa ba : Nat) (S : List Sl) (f nx lv : Value) (w : World) (hl : S.length < 1000000) (ha : Blk w pa [S0 ba S.length, f, nx, lv] 189) :
    Calls Try.prog 171 #[P0 pa] w fun e w' => e = .returned (.int .i64 S.length) ∧ w' = w := by
  have c1 := ha.cell 0
  simp only [List.getElem?_cons_zero, List.getElem?_cons_succ] at c1
  go_enter Try.func171, Try.ntmps171
  go_wp2_with fail
  go_ret
  exact ⟨rfl, rfl⟩
set_option maxHeartbeats 800000 in
theorem total_any (w : World) (R : SRep w L s) (G : Good s q p) :
    Calls Try.prog 179 #[P0 L.ps] w fun e w' => e = .returned (.int .i64 (total q)) ∧ w = w' := by
  have c2 := R.hs.cell 2
  simp only [List.getElem?_cons_zero, List.getElem?_cons_succ] at c2
  have HT := Go.Lib.hid (tlen_any L.pt L.bt s.tab s.many w R.trep)
  rw [G.mn] at HT
  clear G
  go_enter Try.func179, Try.ntmps179
  go_wp2_with fail
  refine HT.out.mono ?_
  rintro e w1 ⟨rfl, rfl⟩
  go_wp2_with fail
  go_ret
  exact ⟨rfl, rfl⟩
set_option maxHeartbeats 800000 in
theorem srooms_any (w : World) (R : SRep w L s) (G : Good s q p) :
    Calls Try.prog 117 #[P0 L.ps] w fun e w' => e = .returned (.tuple #[.int .i64 s.slots.length, .int .i64 s.tab.length]) ∧ Below w.heap.size w w' := by
  have c1 := R.hs.cell 1
  have c2 := R.hs.cell 2
  simp only [List.getElem?_cons_zero, List.getElem?_cons_succ] at c1 c2
  have hb1 := G.b1
  have hb2 := G.b2
  have hb4 := G.b4
  have HA := Go.Lib.hid (fun w => alen_any L.pa L.ba s.slots L.fv (.int .i64 s.next) (.int .i64 s.live) w (by omega))
  have HT := Go.Lib.hid (fun w h => tslots_any L.pt L.bt s.tab s.many w h (by omega))
  have HRa := Go.Lib.hid R.ha
  have HRt := Go.Lib.hid R.trep
  clear G hb1 hb2 hb4 R
  go_enter Try.func117, Try.ntmps117
  go_wp2_with fail
  go_quiet (first | (go_at_call 171; exact Calls.quiet_of_same (HA.out _ HRa.out)) | (go_at_call 172; refine (HT.out _ ⟨blk_drewN HRt.out.ht _, blk_drewN HRt.out.bt _⟩).mono ?_; rintro e w' ⟨rfl, rfl⟩; exact ⟨rfl, _, rfl⟩))
  go_wp2_with fail
  go_ret2
  exact ⟨rfl, below_drewN (Below.refl _ _) nq⟩
set_option maxHeartbeats 800000 in
theorem find_key (k : Int) (w : World) (hk0 : 0 ≤ k) (hk1 : k < 18446744073709551616) (R : SRep w L s) (G : Good s q p) :
    Calls Try.prog 118 #[P0 L.ps, .int .u64 k] w fun e w' => ∃ (t : Nat) (ok : Bool), e = .returned (.tuple #[.int .i64 t, .bool ok]) ∧ Below w.heap.size w w' ∧
      ((ok = true ∧ t < q.length ∧ ∃ i ∈ q.getD t [], (ndT s.slots i).key = k) ∨ (ok = false ∧ t = 0 ∧ ∀ j, isT s.slots j = true → (ndT s.slots j).key ≠ k)) := by
  have c0 := R.hs.cell 0
  simp only [List.getElem?_cons_zero, List.getElem?_cons_succ] at c0
  have hb1 := G.b1
  have hb4 := G.b4
  have h8 := G.q8
  have HNA := Go.Lib.hid (node_any k w hk0 hk1 R G)
  have HR := Go.Lib.hid R
  have HG := Go.Lib.hid G
  clear G
  go_enter Try.func118, Try.ntmps118
  go_wp2_with fail
  refine HNA.out.mono ?_
  rintro e w1 ⟨i, rfl, hb, hN⟩
  have R1 := R.keep hb
  rcases hN with ⟨h1, h2⟩ | ⟨rfl, h2⟩
  · obtain ⟨t, ht, hi⟩ := (HG.out.tk i).1 h1
    have htg := (HG.out.gl.tag ht hi).2
    have hlt := isT_lt h1
    have HT := Go.Lib.hid (tag_any L.pl L.pa L.bl L.ba s.slots s.lists L.fv (.int .i64 s.next) (.int .i64 s.live) i w1 (by omega) (by omega) R1.lrep (by omega))
    rw [htg] at HT
    have e1 : ((t : Int) + 1 - 1) = t := by omega
    rw [e1] at HT
    have hi0 : i ≠ 0 := by omega
    have c1 := R1.hs.cell 0
    simp only [List.getElem?_cons_zero, List.getElem?_cons_succ] at c1
    have HH := Go.Lib.hid hi
    have HK := Go.Lib.hid h2
    have HB := Go.Lib.hid hb
    clear hi h2 htg hlt e1 hb h1
    go_wp2_with fail
    refine HT.out.mono ?_
    rintro e w2 ⟨rfl, hb2⟩
    go_wp2_with fail
    go_ret2
    exact ⟨t, true, rfl, HB.out.trans (hb2.mono HB.out.size), .inl ⟨rfl, ht, i, HH.out, HK.out⟩⟩
  · have HK := Go.Lib.hid h2
    clear h2
    go_wp2_with fail
    go_ret2
    exact ⟨0, false, rfl, hb, .inr ⟨rfl, rfl, HK.out⟩⟩
end
end Go.Proofs.Ytlakojncjldpbaa
