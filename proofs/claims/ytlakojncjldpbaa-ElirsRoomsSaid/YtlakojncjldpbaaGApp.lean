/- append of a slice's elements, as one step of a region that draws its order. -/
import Derived.Test.YtlakojncjldpbaaGRef
import Derived.Deep.RegionHeld3
import Derived.Lib.AppendZerosOnto
namespace Go.Proofs.Ytlakojncjldpbaa
open Go.RowKit Hop
set_option linter.unusedVariables false
set_option linter.unusedSimpArgs false
set_option maxRecDepth 100000
theorem run_append_rows {P : Program} (w : World) (t ty E : TypeId) (z : Value) (k bytes : Nat) (h1 : P.underlying t = some (.slice E)) (hinfo : (P.info? E).map (fun i => (i.zero, i.size, i.bytes)) = some (some z, k, bytes)) (h6 : z.cells.size = k) (h7 : 0 < k)
    (v : Value) (n : Nat) (xs : List Value) (hrow : Row w E k v n xs) (vx : Value) (m : Nat) (news : List Value) (hrowx : Row w E k vx m news) (h1c : ∀ u ∈ news, u.oneCell' = true)
    (b1 : n + m ≤ maxLen) (b2 : (n + m) * bytes ≤ 140737488355328) :
    ∃ v' w', (Builtin.append_ #[t, t] ty #[v, vx]).run P w = .ok v' w' ∧ Row w' E k v' (n + m) (xs ++ news) ∧ Fr (fun b => v.ownBlock = some b) w w' ∧ (∀ b, v'.ownBlock = some b → v.ownBlock = some b ∨ w.heap.size ≤ b) := by
  obtain ⟨i, h2, h3, h4, h5⟩ := info_parts hinfo
  rcases Nat.eq_zero_or_pos m with rfl | hm
  · have hn0 : news = [] := List.eq_nil_of_length_eq_zero (by rw [hrowx.1]; simp)
    subst hn0
    obtain ⟨ao, cap, hv, hle⟩ : ∃ ao cap, v = .slice ao n cap ∧ n ≤ cap := by
      rcases hrow.2 with ⟨hv, rfl⟩ | ⟨g, cap, cs, hv, _, hle, _⟩
      · exact ⟨_, _, hv, Nat.le_refl _⟩
      · exact ⟨_, _, hv, hle⟩
    obtain ⟨ax, cx, hvx⟩ : ∃ ax cx, vx = .slice ax 0 cx := by
      rcases hrowx.2 with ⟨hv, _⟩ | ⟨g, cap, cs, hv, _⟩
      · exact ⟨_, _, hv⟩
      · exact ⟨_, _, hv⟩
    subst hv; subst hvx
    exact ⟨_, w, run_append_zero (P := P) w t ty E i z h1 h2 h3 ao n cap hle ax cx, by simpa using hrow, Fr.refl _ _, fun b hb => .inl hb⟩
  · rcases hrowx.2 with ⟨_, h0⟩ | ⟨g, cx, csx, hvx, hbx, hlex, hcmx, hszx, htkx⟩
    · omega
    · subst hvx
      have hnews : ∀ j u, news[j]? = some u → w.cell? ((⟨g, 0, none⟩ : Addr).add j) = some u := by
        intro j u hj
        rw [Addr.add_lit, Nat.zero_add, hbx.cell]
        rw [← htkx, List.getElem?_take] at hj
        split at hj
        · exact hj
        · cases hj
      have done : ∀ v' w' , w'.ownsRow w.heap.size E k v' (n + m) (xs ++ news) → w.grownBy w' none → Row w' E k v' (n + m) (xs ++ news) ∧ Fr (fun b => v.ownBlock = some b) w w' ∧ (∀ b, v'.ownBlock = some b → v.ownBlock = some b ∨ w.heap.size ≤ b) := by
        intro v' w' how hgr
        rcases how.2 with ⟨_, h0⟩ | ⟨g', cap, cur, hv, hge, hh, hle, hcm, hsz, htk⟩
        · omega
        · subst hv
          refine ⟨⟨how.1, .inr ⟨g', cap, cur.toList, rfl, ?_, hle, hcm, ?_, htk⟩⟩, ⟨hgr.os, hgr.tape, hgr.output, hgr.size, fun k hk _ => hgr.block k hk (by simp)⟩, fun b hb => .inr ?_⟩
          · unfold Blk; simpa using hh
          · simp [hsz]
          · have e : g' = b := by simpa [Value.ownBlock] using hb
            omega
      rcases hrow.2 with ⟨hv, hn0⟩ | ⟨g0, cap, cs, hv, hb, hle, hcm, hsz, htk⟩
      · subst hv; subst hn0
        have hx0 : xs = [] := List.eq_nil_of_length_eq_zero (by rw [hrow.1]; simp)
        subst hx0
        obtain ⟨v', w', r0, r1, r2, _⟩ := run_append_own (P := P) w w.heap.size t ty E i z k bytes h1 h2 h3 h4 h5 h6 h7 (.slice none 0 0) 0 [] (World.ownsRow_nil w _ E k) ⟨g, 0, none⟩ m cx news hrowx.1 hnews h1c b1 b2 (Nat.le_refl _)
        exact ⟨v', w', r0, done v' w' r1 r2⟩
      · subst hv
        have holds : ∀ j u, xs[j]? = some u → w.cell? ((⟨g0, 0, none⟩ : Addr).add j) = some u := by
          intro j u hj
          rw [Addr.add_lit, Nat.zero_add, hb.cell]
          rw [← htk, List.getElem?_take] at hj
          split at hj
          · exact hj
          · cases hj
        by_cases hr : n + m ≤ cap
        · subst h4
          have q : (n + m) * i.size ≤ cap * i.size := Nat.mul_le_mul_right _ hr
          rw [Nat.add_mul] at q
          have hn := hrowx.1
          have hrun := run_append_room_cells (P := P) w t ty E i h1 h2 g0 0 n cap ⟨g, 0, none⟩ m cx news hn hnews h1c hr (fun j hj => by
            have hlt : n * i.size + j < cs.length := by omega
            rw [Nat.zero_add, hb.cell, List.getElem?_eq_getElem hlt]; rfl) (fun j hj => by rw [Nat.zero_add, hb.frozen])
          rw [Nat.zero_add] at hrun
          refine ⟨_, _, hrun, ⟨by rw [List.length_append, hrow.1, hn, Nat.add_mul], .inr ⟨g0, cap, _, rfl, hb.setCells news cs (n * i.size) w, hr, hcm, by rw [setL_length]; exact hsz, ?_⟩⟩, Fr.setCells news (n * i.size) w w _ (Fr.refl _ _) rfl, fun b hb => .inl hb⟩
          have e : (n + m) * i.size = n * i.size + news.length := by rw [Nat.add_mul, hn]
          rw [e, setL_take news cs (n * i.size) (by omega), htk]
        · obtain ⟨v', w', r0, r1, r2⟩ := run_append_arg_grows (P := P) w t ty E i z k bytes h1 h2 h3 h4 h5 h6 h7 ⟨g0, 0, none⟩ n cap xs hrow.1 holds ⟨g, 0, none⟩ m cx news hrowx.1 hnews (by omega) b1 b2
          exact ⟨v', w', r0, done v' w' r1 r2⟩
theorem step_append_rows {P : Program} {ops : Array Oper} {o : Oper} {a : Act} {w : World} {K : Act → World → Prop} {Q : Exit → Act → World → Prop} {Ex : Prop}
    (hg : o.guard = none) (s x : Operand) (t : TypeId) (hop : o.op = Op.call { callee := Callee.builtin Builtin.append, args := #[s, x], argTypes := #[t, t] })
    (E : TypeId) (z : Value) (k bytes : Nat) (h1 : P.underlying t = some (.slice E)) (hinfo : (P.info? E).map (fun i => (i.zero, i.size, i.bytes)) = some (some z, k, bytes)) (h6 : z.cells.size = k) (h7 : 0 < k)
    (v : Value) (n : Nat) (xs : List Value) (hs : a.eval s = v) (hrow : Row w E k v n xs)
    (vx : Value) (m : Nat) (news : List Value) (hx : a.eval x = vx) (hrowx : Row w E k vx m news) (h1c : ∀ u ∈ news, u.oneCell' = true)
    (b1 : n + m ≤ maxLen) (b2 : (n + m) * bytes ≤ 140737488355328)
    (hK : ∀ v' w', Row w' E k v' (n + m) (xs ++ news) → Fr (fun b => v.ownBlock = some b) w w' → (∀ b, v'.ownBlock = some b → v.ownBlock = some b ∨ w.heap.size ≤ b) → K (a.put o.dst v') w') :
    if Region.wanted o (yielded ops a.tmps) = true then Oper.wp P o a w K Q else Ex := by
  have hw : Region.wanted o (yielded ops a.tmps) = true := by simp [Region.wanted, hg]
  rw [if_pos hw]
  obtain ⟨v', w', hrun, r1, r2, r3⟩ := run_append_rows (P := P) w t o.type E z k bytes h1 hinfo h6 h7 v n xs hrow vx m news hrowx h1c b1 b2
  unfold Oper.wp
  simp [execOp, hop, resolve, invoke, builtin, hs, hx, hrun, Result.andThen]
  exact hK v' w' r1 r2 r3
end Go.Proofs.Ytlakojncjldpbaa

namespace Go.Proofs.Ytlakojncjldpbaa
open Go.RowKit Hop
set_option linter.unusedVariables false
set_option linter.unusedSimpArgs false
set_option maxRecDepth 100000
theorem wpList_append_zeros {P : Program} (w : World) {ops : Array Oper} {rest : List Oper} {o : Oper} {a : Act} {Q : Exit → Act → World → Prop}
    (hg : o.guard = none) (s x : Operand) (t tn : TypeId) (hop : o.op = Op.call { callee := Callee.builtin Builtin.append, args := #[s, x], argTypes := #[t, tn] })
    (E : TypeId) (z : Value) (bytes : Nat) (kn : IntKind) (h1 : P.underlying t = some (.slice E)) (htn : P.underlying tn = some (.int kn)) (hinfo : (P.info? E).map (fun i => (i.zero, i.size, i.bytes)) = some (some z, 1, bytes)) (h6 : z.cells.size = 1)
    (hs : a.eval s = .slice none 0 0) (k : Nat) (hx : a.eval x = .int .i64 k) (h0 : 0 < k) (hk : k ≤ 1000000) (hb : k * bytes ≤ 140737488355328)
    (hK : ∀ cap w', Row w' E 1 (.slice (some ⟨w.heap.size, 0, none⟩) 0 cap) 0 [] → k ≤ cap → cap ≤ maxLen → Below w.heap.size w w' → wpList P ops Q rest (a.put o.dst (.slice (some ⟨w.heap.size, 0, none⟩) k cap)) w') :
    wpList P ops Q (o :: rest) a w := by
  obtain ⟨i, hi, hz, hsz, hby⟩ := info_parts hinfo
  refine wpList_plain hg fun K hK' => ?_
  have hold : (Builtin.firstCells i.size 0 (.slice none 0 0)).run P w.drew = .ok ([] : List Value).toArray w.drew := run_firstCells_none w.drew i.size 0 0 0
  have hrun := Lib.run_append_grow_zeros (P := P) w t tn o.type E i z .i64 kn h1 htn hi hz none 0 0 [] hold k h0 (by omega) (by omega) (by omega) (by rw [hby]; omega) (growslice_fits (by omega) (by rw [hby, Nat.zero_add]; exact hb))
  rw [Nat.zero_add] at hrun
  have hge : k ≤ grownCap w k 0 E := grownCap_ge w k 0 E
  have hle : grownCap w k 0 E ≤ maxLen := grownCap_le_maxLen w k 0 E (by unfold maxLen; omega)
  unfold Oper.wp
  simp [execOp, hop, resolve, invoke, builtin, hs, hx, hrun, Result.andThen]
  refine hK' _ _ (hK _ _ ⟨by simp, .inr ⟨w.heap.size, _, (Builtin.zeroCells z.cells k ++ Builtin.zeroCells z.cells (grownCap w k 0 E - k)).toList, rfl, ?_, Nat.zero_le _, hle, ?_, by simp⟩⟩ hge hle ?_)
  · have h := Blk.new0 w.drew (Builtin.zeroCells z.cells k ++ Builtin.zeroCells z.cells (grownCap w k 0 E - k)).toList E
    rw [Array.toArray_toList] at h
    exact h
  · rw [Array.length_toList, Array.size_append, size_zeroCells, size_zeroCells, h6]
    omega
  · exact (Below.refl w.heap.size w).drew.alloc (Nat.le_refl _) _
set_option maxHeartbeats 800000 in
theorem sgrow_nil (n : Nat) (w : World) (hn : n ≤ 1000000) :
    Calls Try.prog 185 #[.slice none 0 0, .int .i64 n] w fun e w' => ∃ v, e = .returned v ∧ Row w' 31 1 v 0 [] ∧ (∀ b, v.ownBlock = some b → w.heap.size ≤ b) ∧ Below w.heap.size w w' := by
  rcases Nat.eq_zero_or_pos n with rfl | h0
  · go_enter Try.func185, Try.ntmps185
    go_wp2_with fail
    go_ret
    exact ⟨_, rfl, Row.nil _ _ _, fun b hb => (by cases hb), Below.refl _ _⟩
  · have h0' : (0 : Int) < n := by omega
    have hn' : (n : Int) ≤ 1000000 := by omega
    go_enter Try.func185, Try.ntmps185
    go_wp2_with (at_builtin; refine wpList_append_zeros _ rfl (.tmp 20) (.tmp 21) 26 3 rfl 31 (.int .u64 0) 8 .i64 Try.underlying26 Try.underlying3 u64_info rfl rfl n rfl h0 hn ?b1 ?next)
    case b1 => omega
    case next =>
      intro cap w' hr hge hle hb
      have HR := Go.Lib.hid hr
      have HB := Go.Lib.hid hb
      unfold maxLen at hle
      clear hr hb
      go_wp2_with fail
      go_ret
      exact ⟨_, rfl, HR.out, fun b hb => (by
        have e : w.heap.size = b := by simpa [Value.ownBlock] using hb
        omega), HB.out⟩
set_option maxHeartbeats 3200000 in
theorem sconcat2_any (B : Nat) (v1 v2 : Value) (L1 L2 : List Int) (w : World) (hl : L1.length + L2.length < 100000) (hb : Blk w B [v1, v2] 26) (h1 : KL w v1 L1) (h2 : KL w v2 L2) :
    Calls Try.prog 127 #[.slice (some ⟨B, 0, none⟩) 2 2] w fun e w' => ∃ v, e = .returned v ∧ KL w' v (L1 ++ L2) ∧ Below w.heap.size w w' := by
  obtain ⟨a1, p1, rfl⟩ := h1.form
  obtain ⟨a2, p2, rfl⟩ := h2.form
  have c0 := hb.cell 0
  have c1 := hb.cell 1
  simp only [List.getElem?_cons_zero, List.getElem?_cons_succ] at c0 c1
  have lb := hb.lt
  have HB := Go.Lib.hid hb
  have H1 := Go.Lib.hid h1
  have H2 := Go.Lib.hid h2
  have HG := Go.Lib.hid (sgrow_nil (L1.length + L2.length) w (by omega))
  have hl1 : L1.length < 100000 := by omega
  have hl2 : L2.length < 100000 := by omega
  have HL := Go.Lib.hid hl
  clear hb h1 h2 hl
  go_enter Try.func127, Try.ntmps127
  go_wp2_with fail
  go_loopg [3, 11] 2 (fun g m i wr => wr = w ∧ ((g = 2 ∧ m = .int .i64 0 ∧ i = .int .i64 0) ∨ (g = 1 ∧ m = .int .i64 L1.length ∧ i = .int .i64 1) ∨ (g = 0 ∧ m = .int .i64 ((L1.length + L2.length : Nat) : Int) ∧ i = .int .i64 2)))
  case atStart => exact ⟨rfl, .inl ⟨rfl, rfl, rfl⟩⟩
  case round =>
    obtain ⟨rfl, ⟨rfl, rfl, rfl⟩ | ⟨rfl, rfl, rfl⟩ | ⟨rfl, rfl, rfl⟩⟩ := hrel
    · go_wp2_with fail
      any_goals (first | (exfalso; omega) | skip)
      go_roundg 1
      case rel => exact ⟨rfl, .inr (.inl ⟨rfl, rfl, rfl⟩)⟩
      case measure => omega
    · go_wp2_with fail
      any_goals (first | (exfalso; omega) | skip)
      go_roundg 0
      case rel => exact ⟨rfl, .inr (.inr ⟨rfl, by congr 1, rfl⟩)⟩
      case measure => omega
    · go_wp2_with fail
      refine HG.out.mono ?_
      rintro e w1 ⟨v, rfl, hr, ho, hbl⟩
      have HR := Go.Lib.hid hr
      have HO := Go.Lib.hid ho
      have HBL := Go.Lib.hid hbl
      clear hr ho hbl c0 c1
      go_wp2_with fail
      go_loopg [6, 27] 2 (fun g v i wt => ∃ K : List Int, KL wt v K ∧ (∀ b, v.ownBlock = some b → wr.heap.size ≤ b) ∧ Below wr.heap.size wr wt ∧ ((g = 2 ∧ K = [] ∧ i = .int .i64 0) ∨ (g = 1 ∧ K = L1 ∧ i = .int .i64 1) ∨ (g = 0 ∧ K = L1 ++ L2 ∧ i = .int .i64 2)))
      case atStart => exact ⟨[], HR.out, HO.out, HBL.out, .inl ⟨rfl, rfl, rfl⟩⟩
      case round =>
        obtain ⟨K, hk, ho2, hbt, hcase⟩ := hrel
        have lbt : B < wr.heap.size := Nat.lt_of_lt_of_le lb hbt.size
        have c0 := (HB.out.keep hbt).cell 0
        have c1 := (HB.out.keep hbt).cell 1
        simp only [List.getElem?_cons_zero, List.getElem?_cons_succ] at c0 c1
        have hl := HL.out
        rcases hcase with ⟨rfl, rfl, rfl⟩ | ⟨rfl, hKL, rfl⟩ | ⟨rfl, rfl, rfl⟩
        · have HK := Go.Lib.hid hk
          have HX := Go.Lib.hid (H1.out.keep hbt)
          have HO2 := Go.Lib.hid ho2
          have HBT := Go.Lib.hid hbt
          clear hk ho2 hbt
          go_wp2_with (at_builtin; refine wpList_append_two _ rfl (.tmp 31) (.tmp 32) 26 rfl 31 (.int .u64 0) 1 8 Try.underlying26 u64_info rfl (by decide) u6 ([] : List Int).length (([] : List Int).map (Value.int .u64)) rfl HK.out (.slice a1 L1.length p1) L1.length (L1.map (Value.int .u64)) rfl HX.out (keys_one _) ?b1 ?b2 ?next)
          case b1 => simp only [List.length_nil]; unfold maxLen; omega
          case b2 => simp only [List.length_nil]; omega
          case next =>
            intro v' w' r1 r2 r3
            have K2 : KL w' v' (L1) := by
              unfold KL
              simpa using r1
            have HK2 := Go.Lib.hid K2
            have hsz := HBT.out.size
            have HO3 := Go.Lib.hid (fun b hb => (r3 b hb).elim (HO2.out b) (fun h => Nat.le_trans hsz h) : ∀ b, v'.ownBlock = some b → _ ≤ b)
            have HB3 := Go.Lib.hid (below_fr HBT.out r2 (Nat.le_refl _) HO2.out)
            clear K2 r1 r2 r3
            go_wp2_with fail
            go_roundg 1
            case rel => exact ⟨L1, HK2.out, HO3.out, HB3.out, .inr (.inl ⟨rfl, rfl, rfl⟩)⟩
            case measure => omega
        · have hKL := hKL.symm
          subst hKL
          have HK := Go.Lib.hid hk
          have HX := Go.Lib.hid (H2.out.keep hbt)
          have HO2 := Go.Lib.hid ho2
          have HBT := Go.Lib.hid hbt
          clear hk ho2 hbt
          go_wp2_with (at_builtin; refine wpList_append_two _ rfl (.tmp 31) (.tmp 32) 26 rfl 31 (.int .u64 0) 1 8 Try.underlying26 u64_info rfl (by decide) u6 (L1 : List Int).length ((L1 : List Int).map (Value.int .u64)) rfl HK.out (.slice a2 L2.length p2) L2.length (L2.map (Value.int .u64)) rfl HX.out (keys_one _) ?b1 ?b2 ?next)
          case b1 => unfold maxLen; omega
          case b2 => omega
          case next =>
            intro v' w' r1 r2 r3
            have K2 : KL w' v' (L1 ++ L2) := by
              unfold KL
              rw [List.map_append, List.length_append]; exact r1
            have HK2 := Go.Lib.hid K2
            have hsz := HBT.out.size
            have HO3 := Go.Lib.hid (fun b hb => (r3 b hb).elim (HO2.out b) (fun h => Nat.le_trans hsz h) : ∀ b, v'.ownBlock = some b → _ ≤ b)
            have HB3 := Go.Lib.hid (below_fr HBT.out r2 (Nat.le_refl _) HO2.out)
            clear K2 r1 r2 r3
            go_wp2_with fail
            go_roundg 0
            case rel => exact ⟨L1 ++ L2, HK2.out, HO3.out, HB3.out, .inr (.inr ⟨rfl, rfl, rfl⟩)⟩
            case measure => omega
        · go_wp2_with fail
          go_ret
          exact ⟨_, rfl, hk, hbt⟩
end Go.Proofs.Ytlakojncjldpbaa
