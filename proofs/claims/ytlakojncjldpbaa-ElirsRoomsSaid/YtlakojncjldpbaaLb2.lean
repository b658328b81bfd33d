/- A store's flags. -/
import Derived.Test.YtlakojncjldpbaaLb1
namespace Go.Proofs.Ytlakojncjldpbaa
open Go.RowKit Hop
set_option linter.unusedVariables false
set_option linter.unusedSimpArgs false
set_option maxRecDepth 100000
theorem ksetflag1 (args : Array Value) (W : World) : (callFunc 240 args).run Try.prog W = .ok (.enter 240 args) W := by kernel_rfl
def flagTo (f : Int) (x : Nd) : Nd := { x with flag := f }
set_option maxHeartbeats 400000 in
theorem setflag1_turns (bb : Nat) (v : Int) (w : World) (hb : Blk w bb [.int .i64 v] 3) : Turns 240 #[P0 bb] (flagTo v) w := by
  intro W b x hB hlo hx
  have l0 := hb.lt
  have l1 := hx.lt
  have c0 := (hb.keep hB).cell 0
  have c5 := hx.cell 2
  have f5 := hx.frozen 2
  simp only [encN, List.getElem?_cons_zero, List.getElem?_cons_succ] at c0 c5
  simp only [List.append_toArray, List.cons_append, List.nil_append]
  have HB := Go.Lib.hid hB
  clear hB
  have hne : bb ≠ b := by omega
  go_enter Try.func240, Try.ntmps240
  go_wp2_with fail
  go_end0
  exact ⟨rfl, (Fr.refl (fun x => x = b) _).setEq rfl _, hx.set 2 _⟩
section
variable {L : Hop.Loc} {s : St} {q : List (List Int)} {p : Nat}
theorem Good.nod_one (G : Good s q p) {k i j : Int} (hi : isT s.slots i = true) (hk : (ndT s.slots i).key = k) (h : Nod s k j) : j = i := by
  rcases h with ⟨h1, h2⟩ | ⟨_, h2⟩
  · exact G.one h1 hi (by rw [h2, hk])
  · exact absurd hk (h2 i hi)
set_option maxHeartbeats 1600000 in
theorem swith_yes (k i : Int) (w : World) (hk0 : 0 ≤ k) (hk1 : k < 18446744073709551616) (R : SRep w L s) (G : Good s q p) (ht : isT s.slots i = true) (hik : (ndT s.slots i).key = k)
    (K : Nat) (cap : Array Value) (fn : Nd → Nd) (hK : ∀ (args : Array Value) (W : World), (callFunc K args).run Try.prog W = .ok (.enter K args) W) (hc : Turns K cap fn w) :
    Calls Try.prog 239 #[P0 L.ps, .int .u64 k, .func (.func K) #[] cap] w fun e w' => e = .returned (.bool true) ∧ Fr (· = L.ba) w w' ∧ Blk w' L.ba (flat encS (up s.slots i fn)) 201 := by
  have hb1 := G.b1
  have hb4 := G.b4
  have hn : s.slots.length < 1000000 := by omega
  have HNA := Go.Lib.hid (node_any k w hk0 hk1 R G)
  have HO := Go.Lib.hid (fun j h => G.nod_one (j := j) ht hik h)
  have HR := Go.Lib.hid R
  have l0 := R.hs.lt
  have l1 := R.ba.lt
  have l2 := R.ha.lt
  have n1 : L.pa ≠ L.ba := R.ha.ne R.ba (by decide)
  have n2 : L.ps ≠ L.ba := R.hs.ne R.ba (by decide)
  have HT := Go.Lib.hid ht
  obtain ⟨h0, h1, h2⟩ := isT_lt ht
  have e : ndT s.slots i = (sg s.slots i).nd := by simp [ndT, ht]
  have eu : up s.slots i fn = st s.slots i ⟨fn (sg s.slots i).nd, true⟩ := rfl
  rw [eu]
  have hi0 : i ≠ 0 := by omega
  clear ht h2 eu G R hik hb1 hb4
  generalize (sg s.slots i).nd = x at *
  obtain ⟨kk, v, fl, tg, pv, nt⟩ := x
  have HE := Go.Lib.hid e
  clear e
  go_enter Try.func239, Try.ntmps239
  go_wp2_with fail
  refine HNA.out.mono ?_
  rintro e w1 ⟨j, rfl, hb1, hN⟩
  obtain rfl := HO.out j hN
  have HB1 := Go.Lib.hid hb1
  have R1 := Go.Lib.hid (HR.out.keep hb1)
  have c1 := R1.out.hs.cell 1
  simp only [List.getElem?_cons_zero, List.getElem?_cons_succ] at c1
  clear hb1 hN
  go_wp2_with fail
  refine (at_any L.pa L.ba s.slots L.fv (.int .i64 s.next) (.int .i64 s.live) j _ (by omega) hn R1.out.ha R1.out.ba).mono ?_
  rw [HE.out]
  simp only [encN]
  rintro e w2 ⟨rfl, hb2⟩
  have HB2 := Go.Lib.hid (HB1.out.trans (hb2.mono HB1.out.size))
  have R2 := Go.Lib.hid (R1.out.keep hb2)
  clear hb2 c1
  go_wp2_with fail
  refine (hc _ _ ⟨kk, v, fl, tg, pv, nt⟩ (HB2.out.alloc HB2.out.size _) HB2.out.size (Blk.new _ _ _)).mono ?_
  rintro e w3 ⟨rfl, hf3, hb3⟩
  have HF3 := Go.Lib.hid hf3
  have HB3 := Go.Lib.hid hb3
  clear hf3 hb3
  have z2 : w.heap.size ≤ w2.heap.size := HB2.out.size
  have s3 : Blk w3.drew L.ps [P0 L.pl, P0 L.pa, P0 L.pt, .int .i64 s.queues] 160 := (HF3.out.blk (x := L.ps) (by show ¬ L.ps = w2.heap.size; omega) (R2.out.hs.alloc _))
  have a3 : Blk w3.drew L.pa [S0 L.ba s.slots.length, L.fv, .int .i64 s.next, .int .i64 s.live] 189 := HF3.out.blk (x := L.pa) (by show ¬ L.pa = w2.heap.size; omega) (R2.out.ha.alloc _)
  have b3 : Blk w3.drew L.ba (flat encS s.slots) 201 := HF3.out.blk (x := L.ba) (by show ¬ L.ba = w2.heap.size; omega) (R2.out.ba.alloc _)
  have g0 : w3.cell? ⟨L.ps, 1, none⟩ = some (P0 L.pa) := by simpa using s3.cell 1
  have g1 := HB3.out.cell 0
  have g2 := HB3.out.cell 1
  have g3 := HB3.out.cell 2
  have g4 := HB3.out.cell 3
  have g5 := HB3.out.cell 4
  have g6 := HB3.out.cell 5
  simp only [encN, List.getElem?_cons_zero, List.getElem?_cons_succ] at g1 g2 g3 g4 g5 g6
  have HS := Go.Lib.hid (set_yes L.pa L.ba s.slots L.fv (.int .i64 s.next) (.int .i64 s.live) j (fn ⟨kk, v, fl, tg, pv, nt⟩) w3.drew hn HT.out a3 b3)
  simp only [encN] at HS
  clear s3 a3 b3
  have hlt : w2.heap.size < w3.heap.size := HB3.out.lt
  have hps : L.ps < w3.heap.size := by omega
  go_wp2_with fail
  go_still_tail 6, (by kernel_rfl)
  change wpList _ _ _ _ _ w3.drew
  clear g0 g1 g2 g3 g4 g5 g6
  go_wp2_with fail
  refine HS.out.mono ?_
  rintro e w4 ⟨rfl, hf4, hb4⟩
  have HF4 := Go.Lib.hid hf4
  have HB4 := Go.Lib.hid hb4
  clear hf4 hb4
  go_wp2_with fail
  go_ret
  refine ⟨rfl, ?_, HB4.out⟩
  have q : Fr (· = L.ba) w w3.drew := ((Fr.of_below HB2.out).alloc _).trans HF3.out.drew (fun k hk => .inr (by subst hk; exact HB2.out.size))
  exact q.trans HF4.out (fun k hk => .inl hk)
theorem Good.flag (G : Good s q p) {i f : Int} (hi : isT s.slots i = true) : Good { s with slots := up s.slots i (flagTo f) } q p ∧
    vw (up s.slots i (flagTo f)) q = (vw s.slots q).map (List.map (fun e => if e.key = (ndT s.slots i).key then ⟨e.key, e.val, f⟩ else e)) := by
  have hN : ∀ j, ndT (up s.slots i (flagTo f)) j = if i = j then flagTo f (ndT s.slots i) else ndT s.slots j := fun j => ndT_up hi _ j
  have hT : ∀ j, isT (up s.slots i (flagTo f)) j = isT s.slots j := fun j => isT_up hi
  have L : LG (up s.slots i (flagTo f)) s.lists q := G.gl.other (fun x hx _ => by
    rw [hT, hN]
    refine ⟨hx, ?_⟩
    split
    · rename_i e; subst e; exact ⟨rfl, rfl, rfl⟩
    · exact ⟨rfl, rfl, rfl⟩)
  refine ⟨G.redo L (up_length _ _ _) rfl rfl (fun _ => Iff.rfl) hT (fun j hj => ?_), ?_⟩
  · rw [hN]
    split
    · rename_i e; subst e; rfl
    · rfl
  · unfold vw
    rw [List.map_map]
    refine List.map_congr_left (fun l hl => ?_)
    simp only [Function.comp, List.map_map]
    refine List.map_congr_left (fun j hj => ?_)
    have hjt : isT s.slots j = true := (G.tk j).2 (inQ_mem.2 ⟨l, hl, hj⟩)
    show en (up s.slots i (flagTo f)) j = if (en s.slots j).key = (ndT s.slots i).key then ⟨(en s.slots j).key, (en s.slots j).val, f⟩ else en s.slots j
    have hNj := hN j
    by_cases e : i = j
    · subst e
      rw [if_pos rfl] at hNj
      rw [if_pos (show (en s.slots i).key = (ndT s.slots i).key from rfl)]
      unfold en
      rw [hNj]
      rfl
    · rw [if_neg e] at hNj
      rw [if_neg (show ¬ (en s.slots j).key = (ndT s.slots i).key from fun h => e (G.one hi hjt (Eq.symm h)))]
      unfold en
      rw [hNj]
end
section
variable {ps : Nat} {O : Nat → Prop} {Q : List (List En)} {p : Nat}
/-- Entries whose flag at a key is another. -/
def flagQ (Q : List (List En)) (k f : Int) : List (List En) := Q.map (List.map (fun e => if e.key = k then ⟨e.key, e.val, f⟩ else e))
set_option maxHeartbeats 800000 in
theorem setflag_sta (k f : Int) (w : World) (hk0 : 0 ≤ k) (hk1 : k < 18446744073709551616) (hk : hasK Q k) (H : Sta w ps O Q p) :
    Calls Try.prog 223 #[P0 ps, .int .u64 k, .int .i64 f] w fun e w' => e = .returned (.bool true) ∧ Sta w' ps O (flagQ Q k f) p ∧ Chg O O w w' := by
  obtain ⟨L, s, q, rfl, rfl, R, G, rfl⟩ := H
  obtain ⟨i, hi, hik⟩ := (hasK_vw G k).1 hk
  obtain ⟨G', gv⟩ := G.flag (f := f) hi
  rw [hik] at gv
  have B0 := (Below.refl w.heap.size w).alloc (Nat.le_refl _) (.cells #[.int .i64 f] 3)
  have HSW := Go.Lib.hid (swith_yes k i _ hk0 hk1 (R.keep B0) G hi hik 240 #[P0 w.heap.size] (flagTo f) ksetflag1 (setflag1_turns w.heap.size f _ (Blk.new0 w [.int .i64 f] 3)))
  have HR := Go.Lib.hid R
  have HG := Go.Lib.hid G'
  have HV := Go.Lib.hid gv
  have HB0 := Go.Lib.hid B0
  clear G R hk hi hik G' gv B0
  go_enter Try.func223, Try.ntmps223
  go_wp2_with fail
  refine HSW.out.mono ?_
  rintro e w1 ⟨rfl, hf, hb⟩
  have R0 := HR.out.keep HB0.out
  have F : Fr (fun k => k = L.ba) w w1 := (Fr.of_below HB0.out).trans hf (fun k h => .inl h)
  have R1 : SRep w1 L { s with slots := up s.slots i (flagTo f) } := by
    refine ⟨F.blk (HR.out.hs.ne HR.out.ba (by decide)) HR.out.hs, F.blk (HR.out.hl.ne HR.out.ba (by decide)) HR.out.hl, ?_, F.blk (HR.out.ht.ne HR.out.ba (by decide)) HR.out.ht, F.blk (HR.out.bl.ne HR.out.ba (by decide)) HR.out.bl, hb, F.blk (HR.out.bt.ne HR.out.ba (by decide)) HR.out.bt, HR.out.fr.frame F (fun k hk e => frv_ne HR.out.fr HR.out.ba (by decide) k hk e)⟩
    show Blk w1 L.pa [S0 L.ba (up s.slots i (flagTo f)).length, L.fv, .int .i64 s.next, .int .i64 s.live] 189
    rw [up_length]
    exact F.blk (HR.out.ha.ne HR.out.ba (by decide)) HR.out.ha
  have HR1 := Go.Lib.hid R1
  have HF := Go.Lib.hid F
  clear R1 F hf hb R0
  go_wp2_with fail
  go_ret
  exact ⟨rfl, ⟨L, _, q, rfl, rfl, HR1.out, HG.out, HV.out⟩, HF.out.mono (fun k e => by subst e; simp [Hop.Loc.has]), fun _ h => .inl h⟩
set_option maxHeartbeats 800000 in
theorem flag_sta (k : Int) (w : World) (hk0 : 0 ≤ k) (hk1 : k < 18446744073709551616) (H : Sta w ps O Q p) :
    Calls Try.prog 142 #[P0 ps, .int .u64 k] w fun e w' => ∃ f, e = .returned (.int .i64 f) ∧ Below w.heap.size w w' ∧ ((∃ l ∈ Q, ∃ e ∈ l, e.key = k ∧ e.flag = f) ∨ (¬ hasK Q k ∧ f = 0)) := by
  obtain ⟨L, s, q, rfl, rfl, R, G, rfl⟩ := H
  have HN := Go.Lib.hid (node_any k w hk0 hk1 R G)
  have HR := Go.Lib.hid R
  have HG := Go.Lib.hid G
  have hb1 := G.b1
  have hb4 := G.b4
  have hn : s.slots.length < 1000000 := by omega
  clear G R hb1 hb4
  have nf := node_flag
  go_enter Try.func142, Try.ntmps142
  go_wp2_with fail
  refine HN.out.mono ?_
  rintro e w1 ⟨i, rfl, hb, hN⟩
  have HB := Go.Lib.hid hb
  rcases hN with ⟨h1, h2⟩ | ⟨rfl, h2⟩
  · have R1 := HR.out.keep hb
    have c1 := R1.hs.cell 1
    simp only [List.getElem?_cons_zero, List.getElem?_cons_succ] at c1
    have hi0 : i ≠ 0 := isT_ne0 h1
    have hle : i ≤ 2147483647 := by have := isT_lt h1; omega
    have HA := Go.Lib.hid (at_any L.pa L.ba s.slots L.fv (.int .i64 s.next) (.int .i64 s.live) i w1 hle hn R1.ha R1.ba)
    have HE : Hid (∃ l ∈ vw s.slots q, ∃ e ∈ l, e.key = k ∧ e.flag = (ndT s.slots i).flag) := by
      obtain ⟨l, hl, hl'⟩ := inQ_mem.1 ((HG.out.tk i).1 h1)
      exact ⟨_, List.mem_map_of_mem hl, _, List.mem_map_of_mem hl', h2, rfl⟩
    clear hb h1 h2 R1
    generalize ndT s.slots i = x at *
    obtain ⟨kk, v, fl, tg, pv, nt⟩ := x
    simp only [encN] at HA
    go_wp2_with fail
    refine HA.out.mono ?_
    rintro e w2 ⟨rfl, hb2⟩
    go_wp2_with fail
    go_ret
    exact ⟨_, rfl, HB.out.trans (hb2.mono HB.out.size), .inl HE.out⟩
  · have HE : Hid (¬ hasK (vw s.slots q) k) := Go.Lib.hid (fun h => by
      obtain ⟨j, hj, hk⟩ := (hasK_vw HG.out k).1 h
      exact h2 j hj hk)
    clear hb h2
    go_wp2_with fail
    go_ret
    exact ⟨0, rfl, HB.out, .inr ⟨HE.out, rfl⟩⟩
end
end Go.Proofs.Ytlakojncjldpbaa
