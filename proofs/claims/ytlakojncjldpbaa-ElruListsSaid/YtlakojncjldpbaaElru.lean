/- The cache over a store: shrink. -/
import Derived.Test.YtlakojncjldpbaaRef8Do
namespace Go.Proofs.Ytlakojncjldpbaa
open Go.RowKit Hop
set_option linter.unusedVariables false
set_option linter.unusedSimpArgs false
set_option maxRecDepth 100000
def kE (k : Int) : En := ⟨k, 0, 0⟩
def qL (L : List Int) : List (List En) := [L.map kE]
theorem ins_qL (L : List Int) (k : Int) : ins (qL L) 0 (kE k) = qL (k :: L) := rfl
theorem del_qL (L : List Int) (k : Int) : del (qL L) k = qL (wo L k) := by
  unfold del qL wo
  simp only [List.map_cons, List.map_nil, List.filter_map]
  rfl
theorem tot_qL (L : List Int) : tot (qL L) = L.length := by unfold tot qL; simp
theorem hasK_qL (L : List Int) (k : Int) : hasK (qL L) k ↔ k ∈ L := by
  unfold hasK qL
  constructor
  · rintro ⟨l, hl, e, he, rfl⟩
    rw [List.mem_singleton] at hl
    subst hl
    obtain ⟨x, hx, rfl⟩ := List.mem_map.1 he
    exact hx
  · intro h
    exact ⟨_, List.mem_singleton_self _, kE k, List.mem_map_of_mem h, rfl⟩
theorem ent_qL {L : List Int} {k : Int} {e : En} (h : ∃ l ∈ qL L, e ∈ l) (hk : e.key = k) : e = kE k := by
  obtain ⟨l, hl, he⟩ := h
  unfold qL at hl
  rw [List.mem_singleton] at hl
  subst hl
  obtain ⟨x, hx, rfl⟩ := List.mem_map.1 he
  rw [← hk]; rfl
theorem nd_qL {L : List Int} {p : Nat} (h : Qok (qL L) p) : L.Nodup := by
  have := h.nd
  unfold qL at this
  simp only [List.flatten_cons, List.flatten_nil, List.append_nil, List.map_map] at this
  have e : L.map (En.key ∘ kE) = L := by
    have : (En.key ∘ kE) = id := rfl
    rw [this, List.map_id]
  rwa [e] at this
theorem ks_qL {L : List Int} {p : Nat} (h : Qok (qL L) p) {k : Int} (hk : k ∈ L) : 0 ≤ k ∧ k < 18446744073709551616 :=
  h.ks _ (List.mem_singleton_self _) (kE k) (List.mem_map_of_mem hk)
theorem wo_last {A : List Int} {x : Int} (h : (A ++ [x]).Nodup) : wo (A ++ [x]) x = A := by
  have hx : x ∉ A := fun hx => (List.nodup_append.1 h).2.2 x hx x (by simp) rfl
  unfold wo
  rw [List.filter_append, List.filter_eq_self.2 (fun a ha => by simp; rintro rfl; exact hx ha)]
  simp
section
variable {ps : Nat} {O : Nat → Prop} {p : Nat}
set_option maxHeartbeats 3200000 in
theorem eshrink_any (px : Nat) (c : Int) (L : List Int) (n : Int) (w : World) (hn : 0 ≤ n) (hn2 : n < 10000000) (hx : Blk w px [P0 ps, .int .i64 c] 113) (hxo : ¬ O px) (H : Sta w ps O (qL L) p) :
    Calls Try.prog 121 #[P0 px, .int .i64 n] w fun e w' => ∃ vo O', e = .returned vo ∧ Sta w' ps O' (qL (L.take n.toNat)) p ∧ Chg O O' w w' ∧ KL w' vo (fallL L n) ∧ (∀ b, vo.ownBlock = some b → w.heap.size ≤ b ∧ ¬ O' b) := by
  have HX := Go.Lib.hid hx
  have HXO := Go.Lib.hid hxo
  have HH := Go.Lib.hid H
  have hl : L.length < 50000 := by
    have h := H.qok
    have := h.tot
    rw [tot_qL] at this
    have := h.p4
    omega
  have hxl := hx.lt
  clear hx hxo H
  go_enter Try.func121, Try.ntmps121
  go_wp2_with fail
  go_loopg [5] L.length (fun g vo wr => g ≤ L.length ∧ (n.toNat ≤ g ∨ g = L.length) ∧ KL wr vo (fallL L g) ∧ ∃ O', (∀ b, vo.ownBlock = some b → w.heap.size ≤ b ∧ ¬ O' b) ∧ Sta wr ps O' (qL (L.take g)) p ∧ Chg O O' w wr)
  case atStart => exact ⟨Nat.le_refl _, .inr rfl, by unfold fallL; simp; exact KL.nil _, O, fun b hb => (by cases hb), by rw [List.take_length]; exact HH.out, Chg.refl _ _⟩
  case round =>
    obtain ⟨hg, hng, hko, O', hoo, hst, hch⟩ := hrel
    have hxw := hch.blk HXO.out HX.out
    have c0 := hxw.cell 0
    simp only [List.getElem?_cons_zero, List.getElem?_cons_succ] at c0
    have hno := hch.not hxl HXO.out
    have HKO := Go.Lib.hid hko
    have HOO := Go.Lib.hid hoo
    have HST := Go.Lib.hid hst
    have HCH := Go.Lib.hid hch
    have HXW := Go.Lib.hid hxw
    have HNO := Go.Lib.hid hno
    have HN := Go.Lib.hid hng
    have HT := Go.Lib.hid (total_sta wr hst)
    have hlt : (L.take gk).length = gk := by rw [List.length_take]; omega
    rw [tot_qL, hlt] at HT
    clear hlt hko hoo hst hch hxw hno hng
    go_wp2_with fail
    refine HT.out.mono ?_
    rintro e w1 ⟨rfl, rfl⟩
    by_cases hlt : n < gk
    · obtain ⟨j, rfl⟩ : ∃ j, gk = j + 1 := ⟨gk - 1, by omega⟩
      have hjl : j < L.length := by omega
      obtain ⟨x, hx, hxj⟩ : ∃ x, L.take (j + 1) = L.take j ++ [x] ∧ L[j]? = some x := ⟨L[j], by rw [List.take_add_one, List.getElem?_eq_getElem hjl]; rfl, List.getElem?_eq_getElem hjl⟩
      have hfl : fallL L j = fallL L (j + 1 : Nat) ++ [x] := by
        unfold fallL
        have e : L.drop j = x :: L.drop (j + 1) := by
          rw [List.drop_eq_getElem_cons hjl]
          rw [List.getElem?_eq_getElem hjl] at hxj
          rw [Option.some.inj hxj]
        simp only [Int.toNat_natCast]
        rw [e, List.reverse_cons]
      have hfn : (fallL L (j + 1 : Nat)).length < 50000 := by
        unfold fallL; simp; omega
      have st1 := HST.out
      rw [hx] at st1
      have hq := st1.qok
      have hnd := nd_qL hq
      have hxk := ks_qL hq (k := x) (by simp)
      obtain ⟨hk0, hk1⟩ := hxk
      have hB : Calls Try.prog 180 #[P0 ps, .int .i64 0] wr fun e w' => e = .returned (.tuple #[.int .u64 x, .bool true]) ∧ Below wr.heap.size wr w' := by
        refine (back_sta 0 wr (by unfold qL; simp) st1).mono ?_
        rintro e w' ⟨k, ok, rfl, hb, h⟩
        have e0 : (qL (L.take j ++ [x])).getD 0 [] = (L.take j).map kE ++ [kE x] := by unfold qL; simp
        rw [e0] at h
        rcases h with ⟨_, _, h⟩ | ⟨h1, l, e, h2, h3⟩
        · simp at h
        · have h4 := List.append_inj_right' h2 (by simp)
          have h5 : kE x = e := by simpa using h4
          subst h5
          rw [h1, h3]
          exact ⟨rfl, hb⟩
      have HBK := Go.Lib.hid hB
      have hdel : del (qL (L.take j ++ [x])) x = qL (L.take j) := by rw [del_qL, wo_last hnd]
      have HRM := Go.Lib.hid (fun w' (h : Sta w' ps O' (qL (L.take j ++ [x])) p) => sremove_has x w' hk0 hk1 ((hasK_qL _ _).2 (by simp)) h)
      rw [hdel] at HRM
      have HS1 := Go.Lib.hid st1
      have HFL := Go.Lib.hid hfl
      clear hx hxj hfl st1 hq hnd hB hdel
      go_wp2_with fail
      refine HBK.out.mono ?_
      rintro e w2 ⟨rfl, hb2⟩
      have c0' := (HXW.out.keep hb2).cell 0
      simp only [List.getElem?_cons_zero, List.getElem?_cons_succ] at c0'
      have HB2 := Go.Lib.hid hb2
      clear hb2 c0
      go_wp2_with fail
      refine (HRM.out _ (HS1.out.keep HB2.out)).mono ?_
      rintro e w3 ⟨rfl, O2, hst3, hch3⟩
      have HST3 := Go.Lib.hid hst3
      have hch4 : Chg O' O2 wr w3 := (Chg.of_below HB2.out).trans hch3
      have HCH4 := Go.Lib.hid hch4
      have K3 : KL w3 u5 (fallL L (j + 1 : Nat)) := Row.frame HKO.out hch4.fr (fun b hb => (HOO.out b hb).2)
      have HK3 := Go.Lib.hid K3
      clear hst3 hch3 hch4 K3 c0'
      go_wp2_with (at_builtin; refine wpList_append_row _ rfl (.tmp 32) (.tmp 34) 26 rfl 31 (.int .u64 0) 1 8 Try.underlying26 u64_info rfl (by decide) _ _ _ rfl (Row.keep HK3.out ((Below.refl _ _).alloc (Nat.le_refl _) _)) ⟨w3.heap.size, 0, none⟩ 1 1 [.int .u64 x] rfl (by decide) rfl ?c1 ?c2 ?b1 ?b2 ?next)
      case c1 => intro i u hu; match i, hu with | 0, hu => simp at hu; subst hu; simp [Addr.add]
      case c2 => intro u hu; simp at hu; subst hu; rfl
      case b1 => unfold maxLen; omega
      case b2 => omega
      case next =>
        intro g' cap' w4 hr4 hf4 hg4
        have hno : ∀ b, u5.ownBlock = some b → b < wr.heap.size := fun b hb => (Row.lt HKO.out hb).1
        have A3 := (Below.refl w3.heap.size w3).alloc (Nat.le_refl _) (.cells #[.int .u64 x] 31)
        have F4 : Fr (fun b => u5.ownBlock = some b) w3 w4 := (Fr.of_below A3).trans hf4 (fun i hi => .inl hi)
        have hu2 : ∀ b, u5.ownBlock = some b → ¬ O2 b := fun b hb => HCH4.out.not (hno b hb) (HOO.out b hb).2
        have S4 : Sta w4 ps O2 (qL (L.take j)) p := HST3.out.frame F4 (fun k hk hb => hu2 k hb hk)
        have sz1 := HCH.out.fr.size
        have sz2 := HCH4.out.fr.size
        have C4 : Chg O O2 w w4 := by
          refine ⟨?_, (HCH.out.trans HCH4.out).own⟩
          refine (HCH.out.trans HCH4.out).fr.trans F4 (fun i hi => .inr ?_)
          exact (HOO.out i hi).1
        have K4 : KL w4 (.slice (some ⟨g', 0, none⟩) ((fallL L (j + 1 : Nat)).length + 1) cap') (fallL L j) := by
          unfold KL
          rw [HFL.out, List.map_append, List.length_append]
          exact hr4
        have O4 : ∀ b, (Value.slice (some ⟨g', 0, none⟩) ((fallL L (j + 1 : Nat)).length + 1) cap').ownBlock = some b → w.heap.size ≤ b ∧ ¬ O2 b := by
          intro b hb
          have e : g' = b := by simpa [Value.ownBlock] using hb
          subst e
          rcases hg4 with h | h
          · exact ⟨(HOO.out _ h).1, hu2 _ h⟩
          · exact ⟨by omega, fun ho => by have := HST3.out.lt ho; omega⟩
        have HS4 := Go.Lib.hid S4
        have HC4 := Go.Lib.hid C4
        have HK4 := Go.Lib.hid K4
        have HO4 := Go.Lib.hid O4
        have HN2 : Hid (n.toNat ≤ j) := Go.Lib.hid (by omega)
        clear hno A3 F4 hu2 S4 C4 K4 O4 hr4 hf4 hg4
        go_wp2_with fail
        go_roundg j
        case rel => exact ⟨by omega, .inl HN2.out, HK4.out, O2, HO4.out, HS4.out, HC4.out⟩
        case measure => omega
    · have ht : L.take n.toNat = L.take gk := by
        rcases HN.out with h | h
        · rw [show gk = n.toNat by omega]
        · rw [h, List.take_length, List.take_of_length_le (by omega)]
      have hfl : fallL L n = fallL L gk := by
        unfold fallL
        rcases HN.out with h | h
        · rw [show ((gk : Nat) : Int).toNat = n.toNat by omega]
        · rw [h]
          simp only [Int.toNat_natCast, List.drop_length]
          rw [List.drop_eq_nil_of_le (by omega)]
      have HTK := Go.Lib.hid ht
      have HFL := Go.Lib.hid hfl
      clear ht hfl
      go_wp2_with fail
      go_ret
      refine ⟨_, O', rfl, ?_, HCH.out, ?_, HOO.out⟩
      · rw [HTK.out]; exact HST.out
      · rw [HFL.out]; exact HKO.out
end
end Go.Proofs.Ytlakojncjldpbaa
