/- append of a slice's elements, as one step of a region that draws its order. -/
import Derived.Test.YtlakojncjldpbaaGRef
import Derived.Deep.RegionHeld3
namespace Go.Proofs.Ytlakojncjldpbaa
open Go.RowKit Hop
set_option linter.unusedVariables false
set_option linter.unusedSimpArgs false
set_option maxRecDepth 100000
theorem run_append_rows {P : Program} (w : World) (t ty E : TypeId) (z : Value) (k bytes : Nat) (h1 : P.underlying t = some (.slice E)) (hinfo : (P.info? E).map (fun i => (i.zero, i.size, i.bytes)) = some (some z, k, bytes)) (h6 : z.cells.size = k) (h7 : 0 < k)
    (v : Value) (n : Nat) (xs : List Value) (hrow : Row w E k v n xs) (vx : Value) (m : Nat) (news : List Value) (hrowx : Row w E k vx m news) (h1c : ∀ u ∈ news, u.oneCell' = true)
    (b1 : n + m ≤ maxLen) (b2 : (n + m) * bytes ≤ 140737488355328) :
    ∃ v' w', (Builtin.append_ #[t, t] ty #[v, vx]).run P w = .ok v' w' ∧ Row w' E k v' (n + m) (xs ++ news) ∧ Fr (fun b => v.ownBlock = some b) w w' ∧ (∀ b, v'.ownBlock = some b → v.ownBlock = some b ∨ w.heap.size ≤ b) := by
  obtain ⟨i, h2, h3, h4, h5⟩ := info_parts hinfo
  rcases Nat.eq_zero_or_pos m with rfl | hm
  · have hn0 : news = [] := List.eq_nil_of_length_eq_zero (by rw [hrowx.1]; simp)
    subst hn0
    obtain ⟨ao, cap, hv, hle⟩ : ∃ ao cap, v = .slice ao n cap ∧ n ≤ cap := by
      rcases hrow.2 with ⟨hv, rfl⟩ | ⟨g, cap, cs, hv, _, hle, _⟩
      · exact ⟨_, _, hv, Nat.le_refl _⟩
      · exact ⟨_, _, hv, hle⟩
    obtain ⟨ax, cx, hvx⟩ : ∃ ax cx, vx = .slice ax 0 cx := by
      rcases hrowx.2 with ⟨hv, _⟩ | ⟨g, cap, cs, hv, _⟩
      · exact ⟨_, _, hv⟩
      · exact ⟨_, _, hv⟩
    subst hv; subst hvx
    exact ⟨_, w, run_append_zero (P := P) w t ty E i z h1 h2 h3 ao n cap hle ax cx, by simpa using hrow, Fr.refl _ _, fun b hb => .inl hb⟩
  · rcases hrowx.2 with ⟨_, h0⟩ | ⟨g, cx, csx, hvx, hbx, hlex, hcmx, hszx, htkx⟩
    · omega
    · subst hvx
      have hnews : ∀ j u, news[j]? = some u → w.cell? ((⟨g, 0, none⟩ : Addr).add j) = some u := by
        intro j u hj
        rw [Addr.add_lit, Nat.zero_add, hbx.cell]
        rw [← htkx, List.getElem?_take] at hj
        split at hj
        · exact hj
        · cases hj
      have done : ∀ v' w' , w'.ownsRow w.heap.size E k v' (n + m) (xs ++ news) → w.grownBy w' none → Row w' E k v' (n + m) (xs ++ news) ∧ Fr (fun b => v.ownBlock = some b) w w' ∧ (∀ b, v'.ownBlock = some b → v.ownBlock = some b ∨ w.heap.size ≤ b) := by
        intro v' w' how hgr
        rcases how.2 with ⟨_, h0⟩ | ⟨g', cap, cur, hv, hge, hh, hle, hcm, hsz, htk⟩
        · omega
        · subst hv
          refine ⟨⟨how.1, .inr ⟨g', cap, cur.toList, rfl, ?_, hle, hcm, ?_, htk⟩⟩, ⟨hgr.os, hgr.tape, hgr.output, hgr.size, fun k hk _ => hgr.block k hk (by simp)⟩, fun b hb => .inr ?_⟩
          · unfold Blk; simpa using hh
          · simp [hsz]
          · have e : g' = b := by simpa [Value.ownBlock] using hb
            omega
      rcases hrow.2 with ⟨hv, hn0⟩ | ⟨g0, cap, cs, hv, hb, hle, hcm, hsz, htk⟩
      · subst hv; subst hn0
        have hx0 : xs = [] := List.eq_nil_of_length_eq_zero (by rw [hrow.1]; simp)
        subst hx0
        obtain ⟨v', w', r0, r1, r2, _⟩ := run_append_own (P := P) w w.heap.size t ty E i z k bytes h1 h2 h3 h4 h5 h6 h7 (.slice none 0 0) 0 [] (World.ownsRow_nil w _ E k) ⟨g, 0, none⟩ m cx news hrowx.1 hnews h1c b1 b2 (Nat.le_refl _)
        exact ⟨v', w', r0, done v' w' r1 r2⟩
      · subst hv
        have holds : ∀ j u, xs[j]? = some u → w.cell? ((⟨g0, 0, none⟩ : Addr).add j) = some u := by
          intro j u hj
          rw [Addr.add_lit, Nat.zero_add, hb.cell]
          rw [← htk, List.getElem?_take] at hj
          split at hj
          · exact hj
          · cases hj
        by_cases hr : n + m ≤ cap
        · subst h4
          have q : (n + m) * i.size ≤ cap * i.size := Nat.mul_le_mul_right _ hr
          rw [Nat.add_mul] at q
          have hn := hrowx.1
          have hrun := run_append_room_cells (P := P) w t ty E i h1 h2 g0 0 n cap ⟨g, 0, none⟩ m cx news hn hnews h1c hr (fun j hj => by
            have hlt : n * i.size + j < cs.length := by omega
            rw [Nat.zero_add, hb.cell, List.getElem?_eq_getElem hlt]; rfl) (fun j hj => by rw [Nat.zero_add, hb.frozen])
          rw [Nat.zero_add] at hrun
          refine ⟨_, _, hrun, ⟨by rw [List.length_append, hrow.1, hn, Nat.add_mul], .inr ⟨g0, cap, _, rfl, hb.setCells news cs (n * i.size) w, hr, hcm, by rw [setL_length]; exact hsz, ?_⟩⟩, Fr.setCells news (n * i.size) w w _ (Fr.refl _ _) rfl, fun b hb => .inl hb⟩
          have e : (n + m) * i.size = n * i.size + news.length := by rw [Nat.add_mul, hn]
          rw [e, setL_take news cs (n * i.size) (by omega), htk]
        · obtain ⟨v', w', r0, r1, r2⟩ := run_append_arg_grows (P := P) w t ty E i z k bytes h1 h2 h3 h4 h5 h6 h7 ⟨g0, 0, none⟩ n cap xs hrow.1 holds ⟨g, 0, none⟩ m cx news hrowx.1 hnews (by omega) b1 b2
          exact ⟨v', w', r0, done v' w' r1 r2⟩
theorem step_append_rows {P : Program} {ops : Array Oper} {o : Oper} {a : Act} {w : World} {K : Act → World → Prop} {Q : Exit → Act → World → Prop} {Ex : Prop}
    (hg : o.guard = none) (s x : Operand) (t : TypeId) (hop : o.op = Op.call { callee := Callee.builtin Builtin.append, args := #[s, x], argTypes := #[t, t] })
    (E : TypeId) (z : Value) (k bytes : Nat) (h1 : P.underlying t = some (.slice E)) (hinfo : (P.info? E).map (fun i => (i.zero, i.size, i.bytes)) = some (some z, k, bytes)) (h6 : z.cells.size = k) (h7 : 0 < k)
    (v : Value) (n : Nat) (xs : List Value) (hs : a.eval s = v) (hrow : Row w E k v n xs)
    (vx : Value) (m : Nat) (news : List Value) (hx : a.eval x = vx) (hrowx : Row w E k vx m news) (h1c : ∀ u ∈ news, u.oneCell' = true)
    (b1 : n + m ≤ maxLen) (b2 : (n + m) * bytes ≤ 140737488355328)
    (hK : ∀ v' w', Row w' E k v' (n + m) (xs ++ news) → Fr (fun b => v.ownBlock = some b) w w' → (∀ b, v'.ownBlock = some b → v.ownBlock = some b ∨ w.heap.size ≤ b) → K (a.put o.dst v') w') :
    if Region.wanted o (yielded ops a.tmps) = true then Oper.wp P o a w K Q else Ex := by
  have hw : Region.wanted o (yielded ops a.tmps) = true := by simp [Region.wanted, hg]
  rw [if_pos hw]
  obtain ⟨v', w', hrun, r1, r2, r3⟩ := run_append_rows (P := P) w t o.type E z k bytes h1 hinfo h6 h7 v n xs hrow vx m news hrowx h1c b1 b2
  unfold Oper.wp
  simp [execOp, hop, resolve, invoke, builtin, hs, hx, hrun, Result.andThen]
  exact hK v' w' r1 r2 r3
end Go.Proofs.Ytlakojncjldpbaa
