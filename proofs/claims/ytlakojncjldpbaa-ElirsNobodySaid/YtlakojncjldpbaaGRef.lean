/- The references' functions of lists of keys: Same, Has, Without, Front, Back. -/
import Derived.Test.YtlakojncjldpbaaGSta
namespace Go.Proofs.Ytlakojncjldpbaa
open Go.RowKit Hop
set_option linter.unusedVariables false
set_option linter.unusedSimpArgs false
set_option maxRecDepth 100000
/-- A list of keys lies in a slice. -/
def KL (w : World) (v : Value) (L : List Int) : Prop := Row w 31 1 v L.length (L.map (Value.int .u64))
theorem KL.keep {w w' : World} {v : Value} {L : List Int} (h : KL w v L) (hb : Below w.heap.size w w') : KL w' v L := Row.keep h hb
theorem KL.nil (w : World) : KL w (.slice none 0 0) [] := Row.nil _ _ _
theorem KL.form {w : World} {v : Value} {L : List Int} (h : KL w v L) : ∃ a cap, v = .slice a L.length cap := row_form h
theorem KL.le {w : World} {v : Value} {L : List Int} (h : KL w v L) : L.length ≤ maxLen := by
  rcases h.2 with ⟨_, h2⟩ | ⟨g, cap, cs, h1, h2, h3, h4, h5⟩
  · omega
  · omega
theorem KL.cell {w : World} {a : Option Addr} {n cap : Nat} {L : List Int} (h : KL w (.slice a n cap) L) {j : Nat} (hj : j < L.length) : ∃ g, a = some ⟨g, 0, none⟩ ∧ L.length ≤ cap ∧ cap ≤ maxLen ∧ w.cell? ⟨g, j, none⟩ = some (.int .u64 L[j]) := by
  obtain ⟨a', cap', e⟩ := h.form
  injection e with e1 e2 e3
  subst e2
  obtain ⟨g, h1, h2, h3, h4⟩ := row_cell h hj
  exact ⟨g, h1, h2, h3, by rw [h4]; simp [hj]⟩
set_option maxHeartbeats 800000 in
theorem has_any (v : Value) (L : List Int) (k : Int) (w : World) (h : KL w v L) :
    Calls Try.prog 33 #[v, .int .u64 k] w fun e w' => e = .returned (.bool (decide (k ∈ L))) ∧ w = w' := by
  obtain ⟨a, cap, rfl⟩ := h.form
  have hle := h.le
  have HH := Go.Lib.hid h
  clear h
  unfold maxLen at hle
  go_enter Try.func33, Try.ntmps33
  go_wp2_with fail
  go_loop [5] (fun i => ∃ j : Nat, j ≤ L.length ∧ i = .int .i64 j ∧ k ∉ L.take j) (fun i => L.length - (intOf i).toNat)
  case atStart => exact ⟨0, by omega, rfl, by simp⟩
  case round =>
    obtain ⟨j, hj, rfl, hno⟩ := hrel
    by_cases hlt : j < L.length
    · obtain ⟨g, rfl, hc1, hc2, hcell⟩ := HH.out.cell hlt
      have hl := HH.out.lt (b := g) rfl
      have hx : ∃ x, x = L[j] := ⟨_, rfl⟩
      have htk : L.take (j + 1) = L.take j ++ [L[j]] := by rw [List.take_add_one, List.getElem?_eq_getElem hlt]; rfl
      by_cases hk : L[j] = k
      · have hm : decide (k ∈ L) = true := decide_eq_true (by rw [← hk]; exact List.getElem_mem hlt)
        have HM := Go.Lib.hid hm
        clear hm
        rw [hk] at hcell
        clear hno hx htk hk
        go_wp2_with fail
        go_ret
        exact ⟨by rw [HM.out]; rfl, rfl⟩
      · have hn : k ∉ L.take (j + 1) := by
          rw [htk]
          simp only [List.mem_append, List.mem_singleton]
          rintro (h | h)
          · exact hno h
          · exact hk h.symm
        have HN := Go.Lib.hid hn
        clear hn hno hx htk
        go_wp2_with fail
        go_round
        case rel => exact ⟨j + 1, by omega, by go_num, HN.out⟩
        case measure => simp [intOf]; omega
    · have e : j = L.length := by omega
      subst e
      have hm : decide (k ∈ L) = false := by
        rw [List.take_length] at hno
        exact decide_eq_false hno
      have HM := Go.Lib.hid hm
      clear hno hm
      go_wp2_with fail
      go_ret
      exact ⟨by rw [HM.out]; rfl, rfl⟩
/-- A list without a key. -/
def wo (L : List Int) (k : Int) : List Int := L.filter (fun x => decide (x ≠ k))
theorem wo_len (L : List Int) (k : Int) : (wo L k).length ≤ L.length := List.length_filter_le _ _
set_option maxHeartbeats 1600000 in
theorem without_any (v : Value) (L : List Int) (k : Int) (w : World) (hsm : L.length < 100000) (h : KL w v L) :
    Calls Try.prog 168 #[v, .int .u64 k] w fun e w' => ∃ v', e = .returned v' ∧ KL w' v' (wo L k) ∧ (∀ b, v'.ownBlock = some b → w.heap.size ≤ b) ∧ Below w.heap.size w w' := by
  obtain ⟨a, cap, rfl⟩ := h.form
  have HH := Go.Lib.hid h
  clear h
  go_enter Try.func168, Try.ntmps168
  go_wp2_with fail
  go_loopw [5, 6] (fun v i wr => ∃ j : Nat, j ≤ L.length ∧ i = .int .i64 j ∧ KL wr v (wo (L.take j) k) ∧ (∀ b, v.ownBlock = some b → w.heap.size ≤ b) ∧ Below w.heap.size w wr) (fun _ i _ => L.length - (intOf i).toNat)
  case atStart => exact ⟨0, by omega, rfl, KL.nil _, fun b hb => (by cases hb), Below.refl _ _⟩
  case round =>
    obtain ⟨j, hj, rfl, hr, ho, hb⟩ := hrel
    by_cases hlt : j < L.length
    · obtain ⟨g, rfl, hc1, hc2, hcell⟩ := (HH.out.keep hb).cell hlt
      have hl := ((HH.out.keep hb).lt (b := g) rfl).1
      have htk : L.take (j + 1) = L.take j ++ [L[j]] := by rw [List.take_add_one, List.getElem?_eq_getElem hlt]; rfl
      have htk2 : wo (L.take (j + 1)) k = wo (L.take j) k ++ (if L[j] = k then [] else [L[j]]) := by
        rw [htk]; unfold wo; rw [List.filter_append]; congr 1; by_cases e : L[j] = k <;> simp [e]
      have hwl : (wo (L.take j) k).length < 100000 := by
        have := wo_len (L.take j) k
        have : (L.take j).length ≤ L.length := by rw [List.length_take]; omega
        omega
      have HR := Go.Lib.hid hr
      have HO := Go.Lib.hid ho
      have HB := Go.Lib.hid hb
      by_cases hk : L[j] = k
      · rw [if_pos hk, List.append_nil] at htk2
        have HT := Go.Lib.hid htk2
        rw [hk] at hcell
        clear htk htk2 hr ho hb hk hwl
        go_wp2_with fail
        go_roundw
        case rel => exact ⟨j + 1, by omega, by go_num, by rw [HT.out]; exact HR.out, HO.out, HB.out⟩
        case measure => simp [intOf]; omega
      · rw [if_neg hk] at htk2
        have HT := Go.Lib.hid htk2
        clear htk htk2 hr ho hb
        generalize L[j] = x at *
        go_wp2_with (at_builtin; refine wpList_append_row _ rfl (.tmp 19) (.tmp 24) 26 rfl 31 (.int .u64 0) 1 8 Try.underlying26 u64_info rfl (by decide) _ _ _ rfl (Row.keep HR.out ((Below.refl _ _).alloc (Nat.le_refl _) _)) ⟨wr.heap.size, 0, none⟩ 1 1 [.int .u64 x] rfl (by decide) rfl ?c1 ?c2 ?b1 ?b2 ?next)
        case c1 => intro i u hu; match i, hu with | 0, hu => simp at hu; subst hu; simp [Addr.add]
        case c2 => intro u hu; simp at hu; subst hu; rfl
        case b1 => unfold maxLen; omega
        case b2 => omega
        case next =>
          intro g' cap' w3 hr3 hf3 hg3
          have B3 := HB.out.alloc HB.out.size (.cells #[.int .u64 x] 31)
          have B4 := below_fr B3 hf3 (Nat.le_refl _) HO.out
          have sz := HB.out.size
          have K3 : KL w3 (.slice (some ⟨g', 0, none⟩) ((wo (L.take j) k).length + 1) cap') (wo (L.take (j + 1)) k) := by
            unfold KL
            rw [HT.out, List.map_append, List.length_append]
            exact hr3
          have O3 : ∀ b, (Value.slice (some ⟨g', 0, none⟩) ((wo (L.take j) k).length + 1) cap').ownBlock = some b → w.heap.size ≤ b := by
            intro b hb
            have e : g' = b := by simpa [Value.ownBlock] using hb
            subst e
            rcases hg3 with h | h
            · exact HO.out _ h
            · omega
          have HK3 := Go.Lib.hid K3
          have HO3 := Go.Lib.hid O3
          have HB4 := Go.Lib.hid B4
          clear K3 O3 B4 B3 hr3 hf3 hg3
          go_wp2_with fail
          go_roundw
          case rel => exact ⟨j + 1, by omega, by go_num, HK3.out, HO3.out, HB4.out⟩
          case measure => simp [intOf]; omega
    · have e : j = L.length := by omega
      subst e
      rw [List.take_length] at hr
      go_wp2_with fail
      go_ret
      exact ⟨_, rfl, hr, ho, hb⟩
end Go.Proofs.Ytlakojncjldpbaa

namespace Go.Proofs.Ytlakojncjldpbaa
open Go.RowKit Hop
set_option linter.unusedVariables false
set_option linter.unusedSimpArgs false
set_option maxRecDepth 100000
theorem run_append_zero {P : Program} (w : World) (t ty e : TypeId) (i : TypeInfo) (z : Value) (ht : P.underlying t = some (.slice e)) (hi : P.info? e = some i) (hz : i.zero = some z) (b : Option Addr) (n cap : Nat) (hle : n ≤ cap) (a : Option Addr) (c : Nat) :
    (Builtin.append_ #[t, t] ty #[.slice b n cap, .slice a 0 c]).run P w = .ok (.slice b n cap) w := by
  cases a with
  | none => cases b <;> simp [Builtin.append_, run_underlying ht, sizeOf, typeInfo, hi, Builtin.lenOf, hle, run_firstCells_none, storeCells]
  | some a =>
    have hfc := run_firstCells_some (P := P) w i.size 0 a 0 c [] (by simp) (by intro j u h; simp at h)
    cases b <;> simp [Builtin.append_, run_underlying ht, sizeOf, typeInfo, hi, Builtin.lenOf, hle, hfc, storeCells]
/-- append, of a slice's elements, to such a slice. -/
theorem wpList_append_two {P : Program} (w : World) {ops : Array Oper} {rest : List Oper} {o : Oper} {a : Act} {Q : Exit → Act → World → Prop}
    (hg : o.guard = none) (s x : Operand) (t : TypeId) (hop : o.op = Op.call { callee := Callee.builtin Builtin.append, args := #[s, x], argTypes := #[t, t] })
    (E : TypeId) (z : Value) (k bytes : Nat) (h1 : P.underlying t = some (.slice E)) (hinfo : (P.info? E).map (fun i => (i.zero, i.size, i.bytes)) = some (some z, k, bytes)) (h6 : z.cells.size = k) (h7 : 0 < k)
    (v : Value) (n : Nat) (xs : List Value) (hs : a.eval s = v) (hrow : Row w E k v n xs)
    (vx : Value) (m : Nat) (news : List Value) (hx : a.eval x = vx) (hrowx : Row w E k vx m news) (h1c : ∀ u ∈ news, u.oneCell' = true)
    (b1 : n + m ≤ maxLen) (b2 : (n + m) * bytes ≤ 140737488355328)
    (hK : ∀ v' w', Row w' E k v' (n + m) (xs ++ news) → Fr (fun b => v.ownBlock = some b) w w' → (∀ b, v'.ownBlock = some b → v.ownBlock = some b ∨ w.heap.size ≤ b) →
      wpList P ops Q rest (a.put o.dst v') w') :
    wpList P ops Q (o :: rest) a w := by
  rcases Nat.eq_zero_or_pos m with rfl | hm
  · obtain ⟨i, h2, h3, h4, h5⟩ := info_parts hinfo
    have hn0 : news = [] := List.eq_nil_of_length_eq_zero (by rw [hrowx.1]; simp)
    subst hn0
    obtain ⟨ao, cap, hv, hle⟩ : ∃ ao cap, v = .slice ao n cap ∧ n ≤ cap := by
      rcases hrow.2 with ⟨hv, rfl⟩ | ⟨g, cap, cs, hv, _, hle, _⟩
      · exact ⟨_, _, hv, Nat.le_refl _⟩
      · exact ⟨_, _, hv, hle⟩
    obtain ⟨ax, cx, hvx⟩ : ∃ ax cx, vx = .slice ax 0 cx := by
      rcases hrowx.2 with ⟨hv, _⟩ | ⟨g, cap, cs, hv, _⟩
      · exact ⟨_, _, hv⟩
      · exact ⟨_, _, hv⟩
    refine wpList_plain hg fun K hK' => ?_
    have hrun := run_append_zero (P := P) w t o.type E i z h1 h2 h3 ao n cap hle ax cx
    unfold Oper.wp
    simp [execOp, hop, resolve, invoke, builtin, hs, hx, hv, hvx, hrun, Result.andThen]
    refine hK' _ _ ?_
    rw [← hv]
    exact hK v w (by simpa using hrow) (Fr.refl _ _) (fun b hb => .inl hb)
  · rcases hrowx.2 with ⟨_, h0⟩ | ⟨g, cap, cs, hv, hb, hle, hcm, hsz, htk⟩
    · omega
    · subst hv
      refine wpList_append_row w hg s x t hop E z k bytes h1 hinfo h6 h7 v n xs hs hrow ⟨g, 0, none⟩ m cap news hx hm hrowx.1 ?_ h1c b1 b2 ?_
      · intro j u hj
        have e : (⟨g, 0, none⟩ : Addr).add j = ⟨g, j, none⟩ := by rw [Addr.add_lit, Nat.zero_add]
        rw [e, hb.cell]
        rw [← htk, List.getElem?_take] at hj
        split at hj
        · exact hj
        · cases hj
      · intro g' cap' w' r1 r2 r3
        refine hK _ w' r1 r2 (fun b hb => ?_)
        have e : g' = b := by simpa [Value.ownBlock] using hb
        subst e
        exact r3
theorem keys_one (L : List Int) : ∀ u ∈ L.map (Value.int .u64), u.oneCell' = true := by
  intro u hu
  obtain ⟨x, _, rfl⟩ := List.mem_map.1 hu
  rfl
set_option maxHeartbeats 800000 in
theorem front_any (v : Value) (L : List Int) (k : Int) (w : World) (hsm : L.length < 50000) (h : KL w v L) :
    Calls Try.prog 166 #[v, .int .u64 k] w fun e w' => ∃ v', e = .returned v' ∧ KL w' v' (k :: wo L k) ∧ (∀ b, v'.ownBlock = some b → w.heap.size ≤ b) ∧ Below w.heap.size w w' := by
  have HH := Go.Lib.hid h
  have hw := wo_len L k
  clear h
  go_enter Try.func166, Try.ntmps166
  go_wp2_with fail
  have B0 := (Below.refl w.heap.size w).alloc (Nat.le_refl _) (.cells #[.int .u64 k] 31)
  refine (without_any v L k _ (by omega) (HH.out.keep B0)).mono ?_
  rintro e w1 ⟨v1, rfl, hk1, ho1, hb1⟩
  have HK1 := Go.Lib.hid hk1
  have HO1 := Go.Lib.hid ho1
  have HB1 := Go.Lib.hid hb1
  have HB0 := Go.Lib.hid B0
  have Q1 : Blk w1 w.heap.size [.int .u64 k] 31 := (Blk.new0 w [.int .u64 k] 31).keep hb1
  have HQ1 := Go.Lib.hid Q1
  clear hk1 ho1 hb1 B0 Q1
  go_wp2_with (at_builtin; refine wpList_append_two _ rfl (.tmp 6) (.tmp 9) 26 rfl 31 (.int .u64 0) 1 8 Try.underlying26 u64_info rfl (by decide) (.slice (some ⟨w.heap.size, 0, none⟩) 1 1) 1 [.int .u64 k] rfl ⟨rfl, .inr ⟨w.heap.size, 1, _, rfl, HQ1.out, Nat.le_refl _, by decide, Nat.le_refl _, rfl⟩⟩ v1 (wo L k).length ((wo L k).map (Value.int .u64)) rfl HK1.out (keys_one _) ?b1 ?b2 ?next)
  case b1 => unfold maxLen; omega
  case b2 => omega
  case next =>
    intro v2 w2 r1 r2 r3
    have B1 := HB0.out.trans (HB1.out.mono HB0.out.size)
    have B2 := below_fr B1 r2 (Nat.le_refl _) (by
      intro i hi
      have e : w.heap.size = i := by simpa [Value.ownBlock] using hi
      omega)
    have K2 : KL w2 v2 (k :: wo L k) := by
      unfold KL
      have e : (k :: wo L k).length = 1 + (wo L k).length := by simp; omega
      rw [e]
      exact r1
    have O2 : ∀ b, v2.ownBlock = some b → w.heap.size ≤ b := by
      intro b hb
      rcases r3 b hb with h | h
      · have e : w.heap.size = b := by simpa [Value.ownBlock] using h
        omega
      · have := B1.size; omega
    have HK2 := Go.Lib.hid K2
    have HO2 := Go.Lib.hid O2
    have HB2 := Go.Lib.hid B2
    clear B1 B2 K2 O2 r1 r2 r3
    go_wp2_with fail
    go_ret
    exact ⟨_, rfl, HK2.out, HO2.out, HB2.out⟩
set_option maxHeartbeats 800000 in
theorem back_key (v : Value) (L : List Int) (x : Int) (w : World) (h : KL w v (L ++ [x])) :
    Calls Try.prog 200 #[v] w fun e w' => e = .returned (.int .u64 x) ∧ w = w' := by
  obtain ⟨a, cap, rfl⟩ := h.form
  obtain ⟨g, rfl, hc1, hc2, hcell⟩ := h.cell (j := L.length) (by simp)
  have hl := (h.lt (b := g) rfl).1
  have hx : (L ++ [x])[L.length] = x := by simp
  have e : (L ++ [x]).length = L.length + 1 := by simp
  simp only [hx, e] at hcell hc1 ⊢
  unfold maxLen at hc2
  clear hx e h
  go_enter Try.func200, Try.ntmps200
  go_wp2_with fail
  go_ret
  exact ⟨rfl, rfl⟩
end Go.Proofs.Ytlakojncjldpbaa

namespace Go.Proofs.Ytlakojncjldpbaa
open Go.RowKit Hop
set_option linter.unusedVariables false
set_option linter.unusedSimpArgs false
set_option maxRecDepth 100000
theorem KL.get {w : World} {a : Option Addr} {n cap : Nat} {L : List Int} (h : KL w (.slice a n cap) L) {j : Nat} (hj : j < L.length) :
    ∃ g x, a = some ⟨g, 0, none⟩ ∧ L.length ≤ cap ∧ cap ≤ maxLen ∧ w.cell? ⟨g, j, none⟩ = some (.int .u64 x) ∧ L.take (j + 1) = L.take j ++ [x] ∧ L[j]? = some x := by
  obtain ⟨g, h1, h2, h3, h4⟩ := h.cell hj
  exact ⟨g, L[j], h1, h2, h3, h4, by rw [List.take_add_one, List.getElem?_eq_getElem hj]; rfl, List.getElem?_eq_getElem hj⟩
set_option maxHeartbeats 800000 in
theorem same_any (va vb : Value) (A B : List Int) (w : World) (ha : KL w va A) (hb : KL w vb B) :
    Calls Try.prog 24 #[va, vb] w fun e w' => e = .returned (.bool (decide (A = B))) ∧ Below w.heap.size w w' := by
  obtain ⟨a, capa, rfl⟩ := ha.form
  obtain ⟨b, capb, rfl⟩ := hb.form
  have hla := ha.le
  have hlb := hb.le
  have HA := Go.Lib.hid ha
  have HB := Go.Lib.hid hb
  clear ha hb
  unfold maxLen at hla hlb
  by_cases hlen : A.length = B.length
  · rw [← hlen] at HB ⊢
    have HL := Go.Lib.hid hlen
    clear hlb hlen
    go_enter Try.func24, Try.ntmps24
    go_wp2_with fail
    go_loopw [5] (fun i wr => ∃ j : Nat, j ≤ A.length ∧ i = .int .i64 j ∧ A.take j = B.take j ∧ Below w.heap.size w wr) (fun i _ => A.length - (intOf i).toNat)
    case atStart => exact ⟨0, by omega, rfl, by simp, Below.refl _ _⟩
    case round =>
      obtain ⟨j, hj, rfl, hab, hbr⟩ := hrel
      by_cases hlt : j < A.length
      · have hlt2 : j < B.length := by rw [← HL.out]; exact hlt
        obtain ⟨g, x, rfl, hc1, hc2, hcell, tka, hxa⟩ := (HA.out.keep hbr).get hlt
        obtain ⟨g2, y, rfl, hc3, hc4, hcell2, tkb, hxb⟩ := (HB.out.keep hbr).get hlt2
        have hl := ((HA.out.keep hbr).lt (b := g) rfl).1
        have hl2 := ((HB.out.keep hbr).lt (b := g2) rfl).1
        have HBR := Go.Lib.hid hbr
        have LB := Go.Lib.hid hlt2
        by_cases hk : x = y
        · have hn : A.take (j + 1) = B.take (j + 1) := by rw [tka, tkb, hab, hk]
          have HN := Go.Lib.hid hn
          subst hk
          clear hn hab hbr tka tkb hlt2 hc3 hxa hxb
          go_wp2_with fail
          go_quiet (fail)
          go_wp2_with fail
          go_roundw
          case rel => exact ⟨j + 1, by omega, by go_num, HN.out, below_drewN HBR.out nq⟩
          case measure => simp [intOf]; omega
        · have hm : decide (A = B) = false := decide_eq_false (fun e => hk (by subst e; rw [hxa] at hxb; exact Option.some.inj hxb))
          have HM := Go.Lib.hid hm
          have hkb : (x == y) = false := by rw [beq_eq_false_iff_ne]; exact hk
          clear hab hbr tka tkb hlt2 hm hc3 hxa hxb
          go_wp2_with fail
          go_quiet (fail)
          go_wp2_with fail
          go_ret
          exact ⟨by rw [HM.out]; rfl, below_drewN HBR.out nq⟩
      · have e : j = A.length := by omega
        subst e
        have hm : decide (A = B) = true := by
          refine decide_eq_true ?_
          rw [List.take_length, HL.out, List.take_length] at hab
          exact hab
        have HM := Go.Lib.hid hm
        clear hab hm
        go_wp2_with fail
        go_ret
        exact ⟨by rw [HM.out]; rfl, hbr⟩
  · have hm : decide (A = B) = false := decide_eq_false (fun e => hlen (by rw [e]))
    have HM := Go.Lib.hid hm
    have hb1 : ((A.length : Int) == (B.length : Int)) = false := by rw [beq_eq_false_iff_ne]; omega
    have hb2 : (A.length == B.length) = false := by rw [beq_eq_false_iff_ne]; omega
    clear hm
    go_enter Try.func24, Try.ntmps24
    go_wp2_with fail
    go_ret
    exact ⟨by rw [HM.out]; rfl, Below.refl _ _⟩
def capF (c : Int) : Int := if c < 1 then 1 else if 1048576 < c then 1048576 else c
set_option maxHeartbeats 800000 in
theorem cap_any (c : Int) (w : World) :
    Calls Try.prog 40 #[.int .i64 c] w fun e w' => e = .returned (.int .i64 (capF c)) ∧ w = w' := by
  by_cases h1 : c < 1
  · have e : capF c = 1 := by unfold capF; rw [if_pos h1]
    rw [e]
    clear e
    go_enter Try.func40, Try.ntmps40
    go_wp2_with fail
    go_ret
    exact ⟨rfl, rfl⟩
  · by_cases h2 : 1048576 < c
    · have e : capF c = 1048576 := by unfold capF; rw [if_neg h1, if_pos h2]
      rw [e]
      clear e
      go_enter Try.func40, Try.ntmps40
      go_wp2_with fail
      go_ret
      exact ⟨rfl, rfl⟩
    · have e : capF c = c := by unfold capF; rw [if_neg h1, if_neg h2]
      rw [e]
      clear e
      go_enter Try.func40, Try.ntmps40
      go_wp2_with fail
      go_ret
      exact ⟨rfl, rfl⟩
/-- What an act is: its kind, by its number and by whether the key is there. -/
def kindF (k : Int) (there : Bool) : Int := if k % 10 = 0 then 3 else if k % 10 = 1 then 4 else if k % 10 = 2 then 1 else if k % 10 = 3 then 2 else if there then 1 else 2
set_option maxHeartbeats 1600000 in
theorem kind_any (k key n : Int) (there : Bool) (w : World) (hk : 0 ≤ k ∧ k < 256) :
    Calls Try.prog 94 #[.agg #[.int .u8 k, .int .u64 key, .int .u16 n], .bool there] w fun e w' => e = .returned (.int .i64 (kindF k there)) ∧ Below w.heap.size w w' := by
  obtain ⟨k0, k1⟩ := hk
  have hB : Below w.heap.size w (w.alloc (.cells #[.int .u8 k, .int .u64 key, .int .u16 n] 34)) := (Below.refl w.heap.size w).alloc (Nat.le_refl _) _
  have HB := Go.Lib.hid hB
  clear hB
  have key : ∀ r, r = kindF k there → Hid (kindF k there = r) := fun r e => Go.Lib.hid e.symm
  by_cases h0 : k % 10 = 0
  · have HF := key 3 (by unfold kindF; rw [if_pos h0])
    clear key
    go_enter Try.func94, Try.ntmps94
    go_wp2_with fail
    go_ret
    exact ⟨by rw [HF.out]; rfl, HB.out⟩
  · by_cases h1 : k % 10 = 1
    · have HF := key 4 (by unfold kindF; rw [if_neg h0, if_pos h1])
      clear key h0
      go_enter Try.func94, Try.ntmps94
      go_wp2_with fail
      go_ret
      exact ⟨by rw [HF.out]; rfl, HB.out⟩
    · by_cases h2 : k % 10 = 2
      · have HF := key 1 (by unfold kindF; rw [if_neg h0, if_neg h1, if_pos h2])
        clear key h0 h1
        go_enter Try.func94, Try.ntmps94
        go_wp2_with fail
        go_ret
        exact ⟨by rw [HF.out]; rfl, HB.out⟩
      · by_cases h3 : k % 10 = 3
        · have HF := key 2 (by unfold kindF; rw [if_neg h0, if_neg h1, if_neg h2, if_pos h3])
          clear key h0 h1 h2
          go_enter Try.func94, Try.ntmps94
          go_wp2_with fail
          go_ret
          exact ⟨by rw [HF.out]; rfl, HB.out⟩
        · cases there with
          | true =>
            have HF := key 1 (by unfold kindF; rw [if_neg h0, if_neg h1, if_neg h2, if_neg h3]; rfl)
            clear key
            go_enter Try.func94, Try.ntmps94
            go_wp2_with fail
            go_ret
            exact ⟨by rw [HF.out]; rfl, HB.out⟩
          | false =>
            have HF := key 2 (by unfold kindF; rw [if_neg h0, if_neg h1, if_neg h2, if_neg h3]; rfl)
            clear key
            go_enter Try.func94, Try.ntmps94
            go_wp2_with fail
            go_ret
            exact ⟨by rw [HF.out]; rfl, HB.out⟩
def sizeF (n : Int) : Int := 1 + n % 14
set_option maxHeartbeats 800000 in
theorem sizeof_any (k key n : Int) (w : World) (hn : 0 ≤ n ∧ n < 65536) :
    Calls Try.prog 100 #[.agg #[.int .u8 k, .int .u64 key, .int .u16 n]] w fun e w' => e = .returned (.int .i64 (sizeF n)) ∧ Below w.heap.size w w' := by
  obtain ⟨k0, k1⟩ := hn
  have hB : Below w.heap.size w (w.alloc (.cells #[.int .u8 k, .int .u64 key, .int .u16 n] 34)) := (Below.refl w.heap.size w).alloc (Nat.le_refl _) _
  have HB := Go.Lib.hid hB
  clear hB
  go_enter Try.func100, Try.ntmps100
  go_wp2_with fail
  go_ret
  exact ⟨by unfold sizeF; rfl, HB.out⟩
end Go.Proofs.Ytlakojncjldpbaa

namespace Go.Proofs.Ytlakojncjldpbaa
open Go.RowKit Hop
set_option linter.unusedVariables false
set_option linter.unusedSimpArgs false
set_option maxRecDepth 100000
theorem KL.set_ne {w : World} {v : Value} {L : List Int} (h : KL w v L) {B o : Nat} (hne : ∀ b, v.ownBlock = some b → b ≠ B) (u : Value) : KL (w.setCell ⟨B, o, none⟩ u) v L :=
  Row.frame h (own := fun k => k = B) ((Fr.refl (fun k => k = B) w).setEq rfl u) hne
theorem KL.ne {w : World} {v : Value} {L : List Int} (h : KL w v L) {B : Nat} {cs : List Value} {T : Nat} (hb : Blk w B cs T) (hT : 31 ≠ T) : ∀ b, v.ownBlock = some b → b ≠ B := by
  intro b hv
  obtain ⟨_, cs', h'⟩ := Row.lt h hv
  exact h'.ne hb hT
theorem below_set {B : Nat} {a b : World} (h : Below B a b) {x o : Nat} (hx : B ≤ x) (u : Value) : Below B a (b.setCell ⟨x, o, none⟩ u) := h.setCell (p := ⟨x, o, none⟩) hx u
theorem KL.take {w : World} {a : Option Addr} {n cap : Nat} {L : List Int} (h : KL w (.slice a n cap) L) {m : Nat} (hm : m ≤ L.length) : KL w (.slice a m cap) (L.take m) := by
  have hl : (L.take m).length = m := by rw [List.length_take]; omega
  refine ⟨by simp, ?_⟩
  rw [hl]
  rcases h.2 with ⟨h1, h2⟩ | ⟨g, cap', cs, h1, h2, h3, h4, h5, h6⟩
  · injection h1 with e1 e2 e3
    subst e1; subst e3
    exact .inl ⟨by rw [show m = 0 by omega], by omega⟩
  · injection h1 with e1 e2 e3
    subst e1; subst e3
    refine .inr ⟨g, cap, cs, rfl, h2, by omega, h4, h5, ?_⟩
    rw [List.map_take, ← h6, List.take_take]
    congr 1
    omega
/-- The keys that fall off a list's end, the last one first. -/
def fallL (L : List Int) (n : Int) : List Int := (L.drop n.toNat).reverse
/-- An act. -/
structure Ac where
  kind : Int
  key : Int
  n : Int
def Ac.ok (a : Ac) : Prop := (0 ≤ a.kind ∧ a.kind < 256) ∧ (0 ≤ a.key ∧ a.key < 18446744073709551616) ∧ (0 ≤ a.n ∧ a.n < 65536)
def kE (k : Int) : En := ⟨k, 0, 0⟩
theorem wo_last {A : List Int} {x : Int} (h : (A ++ [x]).Nodup) : wo (A ++ [x]) x = A := by
  have hx : x ∉ A := fun hx => (List.nodup_append.1 h).2.2 x hx x (by simp) rfl
  unfold wo
  rw [List.filter_append, List.filter_eq_self.2 (fun a ha => by simp; rintro rfl; exact hx ha)]
  simp
theorem chg_up {O O' : Nat → Prop} {w w' : World} (px : Nat) (h : Chg O O' w w') : Chg (fun k => k = px ∨ O k) (fun k => k = px ∨ O' k) w w' :=
  ⟨h.fr.mono (fun k hk => .inr hk), fun k hk => hk.elim (fun e => .inl (.inl e)) (fun hk => (h.own k hk).imp .inr id)⟩
theorem capF_in (c : Int) : 1 ≤ capF c ∧ capF c ≤ 1048576 := by unfold capF; split <;> (try split) <;> omega
theorem KL.lit (w : World) (x : Int) : KL (w.alloc (.cells #[.int .u64 x] 31)) (.slice (some ⟨w.heap.size, 0, none⟩) 1 1) [x] :=
  ⟨rfl, .inr ⟨w.heap.size, 1, _, rfl, Blk.new0 w [.int .u64 x] 31, Nat.le_refl _, by decide, Nat.le_refl _, rfl⟩⟩
theorem Sta.typ {w : World} {ps : Nat} {O : Nat → Prop} {Q : List (List En)} {p : Nat} (H : Sta w ps O Q p) {b : Nat} {cs : List Value} {T : Nat} (hb : Blk w b cs T)
    (hT : T ≠ 160 ∧ T ≠ 192 ∧ T ≠ 189 ∧ T ≠ 195 ∧ T ≠ 208 ∧ T ≠ 201 ∧ T ≠ 213 ∧ T ≠ 21) : ¬ O b := by
  obtain ⟨L, s, q, rfl, rfl, R, G, rfl⟩ := H
  obtain ⟨t1, t2, t3, t4, t5, t6, t7, t8⟩ := hT
  rintro (e | e | e | e | e | e | e | e)
  · exact hb.ne R.hs t1 e
  · exact hb.ne R.hl t2 e
  · exact hb.ne R.ha t3 e
  · exact hb.ne R.ht t4 e
  · exact hb.ne R.bl t5 e
  · exact hb.ne R.ba t6 e
  · exact hb.ne R.bt t7 e
  · exact frv_ne R.fr hb (Ne.symm t8) b e rfl
/-- Acts lie in a slice. -/
def AL (w : World) (v : Value) (A : List Ac) : Prop :=
  ∃ a cap, v = .slice a A.length cap ∧ A.length ≤ maxLen ∧ (∀ x ∈ A, x.ok) ∧ ∀ j x, A[j]? = some x → ∃ ad, a = some ad ∧ ad.block < w.heap.size ∧
    w.cell? (ad.add (j * 3)) = some (.int .u8 x.kind) ∧ w.cell? ⟨(ad.add (j * 3)).block, (ad.add (j * 3)).off + 1, none⟩ = some (.int .u64 x.key) ∧ w.cell? ⟨(ad.add (j * 3)).block, (ad.add (j * 3)).off + 2, none⟩ = some (.int .u16 x.n)
theorem add_block (ad : Addr) (n : Nat) : (ad.add n).block = ad.block := by unfold Addr.add; split <;> rfl
theorem AL.keep {w w' : World} {v : Value} {A : List Ac} (h : AL w v A) (hb : Below w.heap.size w w') : AL w' v A := by
  obtain ⟨a, cap, h1, h2, h3, h4⟩ := h
  refine ⟨a, cap, h1, h2, h3, fun j x hj => ?_⟩
  obtain ⟨ad, g1, g2, g3, g4, g5⟩ := h4 j x hj
  have hs := hb.size
  refine ⟨ad, g1, by omega, ?_, ?_, ?_⟩
  · rw [hb.cell (by rw [add_block]; exact g2)]; exact g3
  · rw [hb.cell (by show (ad.add (j * 3)).block < _; rw [add_block]; exact g2)]; exact g4
  · rw [hb.cell (by show (ad.add (j * 3)).block < _; rw [add_block]; exact g2)]; exact g5
theorem sizeF_in {n : Int} (h : 0 ≤ n) : 1 ≤ sizeF n ∧ sizeF n ≤ 14 := by unfold sizeF; omega
theorem capF_id {c : Int} (h : 1 ≤ c ∧ c ≤ 14) : capF c = c := by unfold capF; rw [if_neg (by omega), if_neg (by omega)]
end Go.Proofs.Ytlakojncjldpbaa

namespace Go.Proofs.Ytlakojncjldpbaa
open Go.RowKit Hop
set_option linter.unusedVariables false
set_option linter.unusedSimpArgs false
set_option maxRecDepth 100000
def qN (Ls : List (List Int)) : List (List En) := Ls.map (List.map kE)
theorem qN_getD (Ls : List (List Int)) (t : Nat) : (qN Ls).getD t [] = (Ls.getD t []).map kE := by
  unfold qN
  simp only [List.getD_eq_getElem?_getD, List.getElem?_map]
  cases Ls[t]? <;> rfl
theorem qN_len (Ls : List (List Int)) : (qN Ls).length = Ls.length := by unfold qN; simp
theorem ins_qN (Ls : List (List Int)) (t : Nat) (k : Int) : ins (qN Ls) t (kE k) = qN (Ls.set t (k :: Ls.getD t [])) := by
  unfold ins
  rw [qN_getD]
  unfold qN
  rw [List.map_set]
  rfl
theorem del_qN (Ls : List (List Int)) (k : Int) : del (qN Ls) k = qN (Ls.map (fun L => wo L k)) := by
  unfold del qN wo
  rw [List.map_map, List.map_map]
  refine List.map_congr_left (fun L _ => ?_)
  simp only [Function.comp, List.filter_map]
  rfl
theorem tot_qN (Ls : List (List Int)) : tot (qN Ls) = (Ls.map List.length).sum := by
  unfold tot qN
  rw [List.map_map]
  congr 1
  exact List.map_congr_left (fun l _ => by simp)
theorem hasK_qN (Ls : List (List Int)) (k : Int) : hasK (qN Ls) k ↔ k ∈ Ls.flatten := by
  unfold hasK qN
  rw [List.mem_flatten]
  constructor
  · rintro ⟨l, hl, e, he, rfl⟩
    obtain ⟨l0, h0, rfl⟩ := List.mem_map.1 hl
    obtain ⟨x, hx, rfl⟩ := List.mem_map.1 he
    exact ⟨l0, h0, hx⟩
  · rintro ⟨l, hl, hk⟩
    exact ⟨_, List.mem_map_of_mem hl, kE k, List.mem_map_of_mem hk, rfl⟩
theorem ent_qN {Ls : List (List Int)} {k : Int} {e : En} (h : ∃ l ∈ qN Ls, e ∈ l) (hk : e.key = k) : e = kE k := by
  obtain ⟨l, hl, he⟩ := h
  unfold qN at hl
  obtain ⟨l0, h0, rfl⟩ := List.mem_map.1 hl
  obtain ⟨x, hx, rfl⟩ := List.mem_map.1 he
  rw [← hk]; rfl
theorem nd_qN {Ls : List (List Int)} {p : Nat} (h : Qok (qN Ls) p) : Ls.flatten.Nodup := by
  have := h.nd
  unfold qN at this
  rw [← List.map_flatten, List.map_map] at this
  have e : Ls.flatten.map (En.key ∘ kE) = Ls.flatten := by
    have : (En.key ∘ kE) = id := rfl
    rw [this, List.map_id]
  rwa [e] at this
theorem ks_qN {Ls : List (List Int)} {p : Nat} (h : Qok (qN Ls) p) {k : Int} (hk : k ∈ Ls.flatten) : 0 ≤ k ∧ k < 18446744073709551616 := by
  obtain ⟨l, hl, hk⟩ := List.mem_flatten.1 hk
  exact h.ks _ (List.mem_map_of_mem hl) (kE k) (List.mem_map_of_mem hk)
theorem wo_id {L : List Int} {k : Int} (h : k ∉ L) : wo L k = L := by
  unfold wo
  exact List.filter_eq_self.2 (fun a ha => by simp; rintro rfl; exact h ha)
theorem wo_map_id {Ls : List (List Int)} {k : Int} (h : k ∉ Ls.flatten) : Ls.map (fun L => wo L k) = Ls := by
  have : Ls.map (fun L => wo L k) = Ls.map id := List.map_congr_left (fun L hL => wo_id (fun hk => h (List.mem_flatten.2 ⟨L, hL, hk⟩)))
  rw [this, List.map_id]
theorem mem_wo {L : List Int} {k x : Int} : x ∈ wo L k ↔ x ∈ L ∧ x ≠ k := by
  unfold wo
  rw [List.mem_filter]
  simp
section
variable {ps : Nat} {O : Nat → Prop} {Ls : List (List Int)} {p : Nat}
theorem find_k (k : Int) (w : World) (hk0 : 0 ≤ k) (hk1 : k < 18446744073709551616) (H : Sta w ps O (qN Ls) p) :
    Calls Try.prog 118 #[P0 ps, .int .u64 k] w fun e w' => ∃ (t : Nat) (ok : Bool), e = .returned (.tuple #[.int .i64 t, .bool ok]) ∧ Below w.heap.size w w' ∧
      ((ok = true ∧ t < Ls.length ∧ k ∈ Ls.getD t []) ∨ (ok = false ∧ t = 0 ∧ k ∉ Ls.flatten)) := by
  refine (find_sta k w hk0 hk1 H).mono ?_
  rintro e w' ⟨t, ok, rfl, hb, h⟩
  refine ⟨t, ok, rfl, hb, ?_⟩
  rcases h with ⟨h1, h2, e, h3, h4⟩ | ⟨h1, h2, h3⟩
  · rw [qN_getD] at h3
    obtain ⟨x, hx, rfl⟩ := List.mem_map.1 h3
    exact .inl ⟨h1, by rwa [qN_len] at h2, by rw [← h4]; exact hx⟩
  · exact .inr ⟨h1, h2, fun h => h3 ((hasK_qN _ _).2 h)⟩
theorem back_k (t : Nat) {A : List Int} {x : Int} (w : World) (ht : t < Ls.length) (h : Ls.getD t [] = A ++ [x]) (H : Sta w ps O (qN Ls) p) :
    Calls Try.prog 180 #[P0 ps, .int .i64 t] w fun e w' => e = .returned (.tuple #[.int .u64 x, .bool true]) ∧ Below w.heap.size w w' := by
  refine (back_sta t w (by rw [qN_len]; exact ht) H).mono ?_
  rintro e w' ⟨k, ok, rfl, hb, hh⟩
  rw [qN_getD, h, List.map_append] at hh
  rcases hh with ⟨_, _, hh⟩ | ⟨h1, l, e, h2, h3⟩
  · simp at hh
  · have h4 := List.append_inj_right' h2 (by simp)
    have h5 : kE x = e := by simpa using h4
    subst h5
    rw [h1, h3]
    exact ⟨rfl, hb⟩
theorem len_k (t : Nat) (w : World) (ht : t < Ls.length) (H : Sta w ps O (qN Ls) p) :
    Calls Try.prog 128 #[P0 ps, .int .i64 t] w fun e w' => e = .returned (.int .i64 (Ls.getD t []).length) ∧ w = w' := by
  have h := len_sta t w (by rw [qN_len]; exact ht) H
  rw [qN_getD, List.length_map] at h
  exact h
theorem move_k (t : Nat) (k : Int) (w : World) (hk0 : 0 ≤ k) (hk1 : k < 18446744073709551616) (ht : t < Ls.length) (hk : k ∈ Ls.flatten) (H : Sta w ps O (qN Ls) p) :
    Calls Try.prog 119 #[P0 ps, .int .i64 t, .int .u64 k] w fun e w' => e = .returned (.bool true) ∧ ∃ O', Sta w' ps O' (qN ((Ls.map (fun L => wo L k)).set t (k :: (Ls.map (fun L => wo L k)).getD t []))) p ∧ Chg O O' w w' := by
  refine (move_has t k w hk0 hk1 (by rw [qN_len]; exact ht) ((hasK_qN _ _).2 hk) H).mono ?_
  rintro e w' ⟨rfl, e0, h1, h2, O', h3, h4⟩
  rw [ent_qN h1 h2, del_qN, ins_qN] at h3
  exact ⟨rfl, O', h3, h4⟩
theorem remove_k (k : Int) (w : World) (hk0 : 0 ≤ k) (hk1 : k < 18446744073709551616) (H : Sta w ps O (qN Ls) p) :
    Calls Try.prog 120 #[P0 ps, .int .u64 k] w fun e w' => e = .returned (.bool (decide (k ∈ Ls.flatten))) ∧ ∃ O', Sta w' ps O' (qN (Ls.map (fun L => wo L k))) p ∧ Chg O O' w w' := by
  by_cases hk : k ∈ Ls.flatten
  · rw [decide_eq_true hk]
    refine (sremove_has k w hk0 hk1 ((hasK_qN _ _).2 hk) H).mono ?_
    rintro e w' ⟨rfl, O', h3, h4⟩
    rw [del_qN] at h3
    exact ⟨rfl, O', h3, h4⟩
  · rw [decide_eq_false hk]
    refine (sremove_not k w hk0 hk1 (fun h => hk ((hasK_qN _ _).1 h)) H).mono ?_
    rintro e w' ⟨rfl, hb⟩
    rw [wo_map_id hk]
    exact ⟨rfl, O, H.keep hb, Chg.of_below hb⟩
theorem push_k (t : Nat) (k : Int) (w : World) (hk0 : 0 ≤ k) (hk1 : k < 18446744073709551616) (ht : t < Ls.length) (hp : p < 49999) (hno : k ∉ Ls.flatten) (H : Sta w ps O (qN Ls) p) :
    Calls Try.prog 122 #[P0 ps, .int .i64 t, .int .u64 k] w fun e w' => e = .returned (.bool true) ∧ ∃ O', Sta w' ps O' (qN (Ls.set t (k :: Ls.getD t []))) (max p ((Ls.map List.length).sum + 1)) ∧ Chg O O' w w' := by
  have h := pushfront_sta t k w hk0 hk1 (by rw [qN_len]; exact ht) hp (fun h => hno ((hasK_qN _ _).1 h)) H
  rw [tot_qN] at h
  refine h.mono ?_
  rintro e w' ⟨rfl, O', h3, h4⟩
  have e1 : (⟨k, 0, 0⟩ : En) = kE k := rfl
  rw [e1, ins_qN] at h3
  exact ⟨rfl, O', h3, h4⟩
theorem keys_k (t : Nat) (w : World) (ht : t < Ls.length) (H : Sta w ps O (qN Ls) p) :
    Calls Try.prog 116 #[P0 ps, .int .i64 t] w fun e w' => ∃ v, e = .returned v ∧ KL w' v (Ls.getD t []) ∧ (∀ b, v.ownBlock = some b → w.heap.size ≤ b) ∧ Below w.heap.size w w' := by
  have h := keys_sta t w (by rw [qN_len]; exact ht) H
  rw [qN_getD] at h
  have e1 : ((Ls.getD t []).map kE).length = (Ls.getD t []).length := by simp
  have e2 : ((Ls.getD t []).map kE).map (fun e => Value.int .u64 e.key) = (Ls.getD t []).map (Value.int .u64) := by rw [List.map_map]; rfl
  rw [e1, e2] at h
  exact h
theorem rooms_k (w : World) (H : Sta w ps O (qN Ls) p) :
    Calls Try.prog 117 #[P0 ps] w fun e w' => ∃ a b : Nat, e = .returned (.tuple #[.int .i64 a, .int .i64 b]) ∧ Below w.heap.size w w' ∧ (Ls.map List.length).sum ≤ a ∧ (Ls.map List.length).sum ≤ b ∧ a ≤ 8 + 2 * p ∧ 3 * b ≤ 24 + 8 * p ∧ (a % 8 = 0 ∧ 8 ≤ a ∧ b % 8 = 0 ∧ 8 ≤ b) := by
  have h := rooms_sta w H
  rw [tot_qN] at h
  exact h
end
end Go.Proofs.Ytlakojncjldpbaa
