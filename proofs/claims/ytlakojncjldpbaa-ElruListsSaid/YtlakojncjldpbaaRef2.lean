/- Append of nothing; Front, Back, Same. -/
import Derived.Test.YtlakojncjldpbaaRef1
namespace Go.Proofs.Ytlakojncjldpbaa
open Go.RowKit Hop
set_option linter.unusedVariables false
set_option linter.unusedSimpArgs false
set_option maxRecDepth 100000
theorem run_append_zero {P : Program} (w : World) (t ty e : TypeId) (i : TypeInfo) (z : Value) (ht : P.underlying t = some (.slice e)) (hi : P.info? e = some i) (hz : i.zero = some z) (b : Option Addr) (n cap : Nat) (hle : n ≤ cap) (a : Option Addr) (c : Nat) :
    (Builtin.append_ #[t, t] ty #[.slice b n cap, .slice a 0 c]).run P w = .ok (.slice b n cap) w := by
  cases a with
  | none => cases b <;> simp [Builtin.append_, run_underlying ht, sizeOf, typeInfo, hi, Builtin.lenOf, hle, run_firstCells_none, storeCells]
  | some a =>
    have hfc := run_firstCells_some (P := P) w i.size 0 a 0 c [] (by simp) (by intro j u h; simp at h)
    cases b <;> simp [Builtin.append_, run_underlying ht, sizeOf, typeInfo, hi, Builtin.lenOf, hle, hfc, storeCells]
/-- append, of a slice's elements, to such a slice. -/
theorem wpList_append_two {P : Program} (w : World) {ops : Array Oper} {rest : List Oper} {o : Oper} {a : Act} {Q : Exit → Act → World → Prop}
    (hg : o.guard = none) (s x : Operand) (t : TypeId) (hop : o.op = Op.call { callee := Callee.builtin Builtin.append, args := #[s, x], argTypes := #[t, t] })
    (E : TypeId) (z : Value) (k bytes : Nat) (h1 : P.underlying t = some (.slice E)) (hinfo : (P.info? E).map (fun i => (i.zero, i.size, i.bytes)) = some (some z, k, bytes)) (h6 : z.cells.size = k) (h7 : 0 < k)
    (v : Value) (n : Nat) (xs : List Value) (hs : a.eval s = v) (hrow : Row w E k v n xs)
    (vx : Value) (m : Nat) (news : List Value) (hx : a.eval x = vx) (hrowx : Row w E k vx m news) (h1c : ∀ u ∈ news, u.oneCell' = true)
    (b1 : n + m ≤ maxLen) (b2 : (n + m) * bytes ≤ 140737488355328)
    (hK : ∀ v' w', Row w' E k v' (n + m) (xs ++ news) → Fr (fun b => v.ownBlock = some b) w w' → (∀ b, v'.ownBlock = some b → v.ownBlock = some b ∨ w.heap.size ≤ b) →
      wpList P ops Q rest (a.put o.dst v') w') :
    wpList P ops Q (o :: rest) a w := by
  rcases Nat.eq_zero_or_pos m with rfl | hm
  · obtain ⟨i, h2, h3, h4, h5⟩ := info_parts hinfo
    have hn0 : news = [] := List.eq_nil_of_length_eq_zero (by rw [hrowx.1]; simp)
    subst hn0
    obtain ⟨ao, cap, hv, hle⟩ : ∃ ao cap, v = .slice ao n cap ∧ n ≤ cap := by
      rcases hrow.2 with ⟨hv, rfl⟩ | ⟨g, cap, cs, hv, _, hle, _⟩
      · exact ⟨_, _, hv, Nat.le_refl _⟩
      · exact ⟨_, _, hv, hle⟩
    obtain ⟨ax, cx, hvx⟩ : ∃ ax cx, vx = .slice ax 0 cx := by
      rcases hrowx.2 with ⟨hv, _⟩ | ⟨g, cap, cs, hv, _⟩
      · exact ⟨_, _, hv⟩
      · exact ⟨_, _, hv⟩
    refine wpList_plain hg fun K hK' => ?_
    have hrun := run_append_zero (P := P) w t o.type E i z h1 h2 h3 ao n cap hle ax cx
    unfold Oper.wp
    simp [execOp, hop, resolve, invoke, builtin, hs, hx, hv, hvx, hrun, Result.andThen]
    refine hK' _ _ ?_
    rw [← hv]
    exact hK v w (by simpa using hrow) (Fr.refl _ _) (fun b hb => .inl hb)
  · rcases hrowx.2 with ⟨_, h0⟩ | ⟨g, cap, cs, hv, hb, hle, hcm, hsz, htk⟩
    · omega
    · subst hv
      refine wpList_append_row w hg s x t hop E z k bytes h1 hinfo h6 h7 v n xs hs hrow ⟨g, 0, none⟩ m cap news hx hm hrowx.1 ?_ h1c b1 b2 ?_
      · intro j u hj
        have e : (⟨g, 0, none⟩ : Addr).add j = ⟨g, j, none⟩ := by rw [Addr.add_lit, Nat.zero_add]
        rw [e, hb.cell]
        rw [← htk, List.getElem?_take] at hj
        split at hj
        · exact hj
        · cases hj
      · intro g' cap' w' r1 r2 r3
        refine hK _ w' r1 r2 (fun b hb => ?_)
        have e : g' = b := by simpa [Value.ownBlock] using hb
        subst e
        exact r3
theorem keys_one (L : List Int) : ∀ u ∈ L.map (Value.int .u64), u.oneCell' = true := by
  intro u hu
  obtain ⟨x, _, rfl⟩ := List.mem_map.1 hu
  rfl
set_option maxHeartbeats 800000 in
theorem front_any (v : Value) (L : List Int) (k : Int) (w : World) (hsm : L.length < 50000) (h : KL w v L) :
    Calls Try.prog 166 #[v, .int .u64 k] w fun e w' => ∃ v', e = .returned v' ∧ KL w' v' (k :: wo L k) ∧ (∀ b, v'.ownBlock = some b → w.heap.size ≤ b) ∧ Below w.heap.size w w' := by
  have HH := Go.Lib.hid h
  have hw := wo_len L k
  clear h
  go_enter Try.func166, Try.ntmps166
  go_wp2_with fail
  have B0 := (Below.refl w.heap.size w).alloc (Nat.le_refl _) (.cells #[.int .u64 k] 31)
  refine (without_any v L k _ (by omega) (HH.out.keep B0)).mono ?_
  rintro e w1 ⟨v1, rfl, hk1, ho1, hb1⟩
  have HK1 := Go.Lib.hid hk1
  have HO1 := Go.Lib.hid ho1
  have HB1 := Go.Lib.hid hb1
  have HB0 := Go.Lib.hid B0
  have Q1 : Blk w1 w.heap.size [.int .u64 k] 31 := (Blk.new0 w [.int .u64 k] 31).keep hb1
  have HQ1 := Go.Lib.hid Q1
  clear hk1 ho1 hb1 B0 Q1
  go_wp2_with (at_builtin; refine wpList_append_two _ rfl (.tmp 6) (.tmp 9) 26 rfl 31 (.int .u64 0) 1 8 Try.underlying26 u64_info rfl (by decide) (.slice (some ⟨w.heap.size, 0, none⟩) 1 1) 1 [.int .u64 k] rfl ⟨rfl, .inr ⟨w.heap.size, 1, _, rfl, HQ1.out, Nat.le_refl _, by decide, Nat.le_refl _, rfl⟩⟩ v1 (wo L k).length ((wo L k).map (Value.int .u64)) rfl HK1.out (keys_one _) ?b1 ?b2 ?next)
  case b1 => unfold maxLen; omega
  case b2 => omega
  case next =>
    intro v2 w2 r1 r2 r3
    have B1 := HB0.out.trans (HB1.out.mono HB0.out.size)
    have B2 := below_fr B1 r2 (Nat.le_refl _) (by
      intro i hi
      have e : w.heap.size = i := by simpa [Value.ownBlock] using hi
      omega)
    have K2 : KL w2 v2 (k :: wo L k) := by
      unfold KL
      have e : (k :: wo L k).length = 1 + (wo L k).length := by simp; omega
      rw [e]
      exact r1
    have O2 : ∀ b, v2.ownBlock = some b → w.heap.size ≤ b := by
      intro b hb
      rcases r3 b hb with h | h
      · have e : w.heap.size = b := by simpa [Value.ownBlock] using h
        omega
      · have := B1.size; omega
    have HK2 := Go.Lib.hid K2
    have HO2 := Go.Lib.hid O2
    have HB2 := Go.Lib.hid B2
    clear B1 B2 K2 O2 r1 r2 r3
    go_wp2_with fail
    go_ret
    exact ⟨_, rfl, HK2.out, HO2.out, HB2.out⟩
set_option maxHeartbeats 800000 in
theorem back_key (v : Value) (L : List Int) (x : Int) (w : World) (h : KL w v (L ++ [x])) :
    Calls Try.prog 200 #[v] w fun e w' => e = .returned (.int .u64 x) ∧ w = w' := by
  obtain ⟨a, cap, rfl⟩ := h.form
  obtain ⟨g, rfl, hc1, hc2, hcell⟩ := h.cell (j := L.length) (by simp)
  have hl := (h.lt (b := g) rfl).1
  have hx : (L ++ [x])[L.length] = x := by simp
  have e : (L ++ [x]).length = L.length + 1 := by simp
  simp only [hx, e] at hcell hc1 ⊢
  unfold maxLen at hc2
  clear hx e h
  go_enter Try.func200, Try.ntmps200
  go_wp2_with fail
  go_ret
  exact ⟨rfl, rfl⟩
end Go.Proofs.Ytlakojncjldpbaa
