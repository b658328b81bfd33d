/- Laws of the walk that the kit lacks at structs of several cells: copy; make; a whole row known. No program in sight. -/
import Derived.Test.YtlakojncjldpbaaRep
import Derived.Laws.CopyOwn
import Derived.OwnWalk
import Derived.ArgAppend
namespace Go.Proofs.Ytlakojncjldpbaa
namespace Hop
open Go.RowKit
set_option linter.unusedVariables false
set_option linter.unusedSimpArgs false
theorem run_copy_rows {P : Program} (w : World) (dT sT ty elem : TypeId) (g dLen dCap : Nat) (a : Addr) (sLen sCap n k : Nat) (cur : Array Value) (t : TypeId) (cs : List Value)
    (hu : P.underlying dT = some (.slice elem)) (hs : (P.info? elem).map (·.size) = some k)
    (hg : w.heap[g]? = some (.cells cur t (0, 0))) (hn : n = Nat.min sLen dLen) (hcs : cs.length = n * k)
    (hsrc : ∀ j v, cs[j]? = some v → w.cell? (a.add j) = some v) (hfit : cs.length ≤ cur.size) (h1 : ∀ v ∈ cs, v.oneCell' = true) :
    (Builtin.copy_ #[dT, sT] ty #[.slice (some ⟨g, 0, none⟩) dLen dCap, .slice (some a) sLen sCap]).run P w =
      .ok (goInt n) (w.setRow g (cs ++ cur.toList.drop cs.length).toArray) := by
  have hl := run_loadCells_list (P := P) w a cs hsrc
  have hst := run_storeCells_at P g 0 t cs 0 cur w hg (by simpa using hfit) h1
  cases hq : P.info? elem with
  | none => simp [hq] at hs
  | some i =>
    have hi : i.size = k := by simpa [hq] using hs
    rw [hcs] at hl
    simp [Builtin.copy_, run_underlying hu, Builtin.lenOf, Builtin.firstCells, sizeOf, typeInfo, hq, hi, ← hn, hl, hst]
theorem wpList_copy_rows {P : Program} {w : World} {ops : Array Oper} {rest : List Oper} {o : Oper} {a : Act} {Q : Exit → Act → World → Prop} (hgd : o.guard = none) (d s : Operand) (dT sT : TypeId)
    (ho : o.op = .call { callee := .builtin .copy, args := #[d, s], argTypes := #[dT, sT] }) (elem : TypeId) (hu : P.underlying dT = some (.slice elem)) (k : Nat) (hs : (P.info? elem).map (·.size) = some k)
    (g b dLen dCap sLen sCap : Nat) (hd : a.eval d = .slice (some ⟨g, 0, none⟩) dLen dCap) (hsv : a.eval s = .slice (some ⟨b, 0, none⟩) sLen sCap)
    (cur cs : List Value) (t t' : TypeId) (hg : Blk w g cur t) (hb : Blk w b cs t') (hle : sLen ≤ dLen) (hcs : cs.length = sLen * k) (hfit : cs.length ≤ cur.length) (h1 : ∀ v ∈ cs, v.oneCell' = true)
    (h : ∀ w', Fr (· = g) w w' → Blk w' g (cs ++ cur.drop cs.length) t → wpList P ops Q rest (a.put o.dst (goInt sLen)) w') : wpList P ops Q (o :: rest) a w := by
  refine wpList_plain hgd fun K hK => ?_
  have hadd : ∀ j, (⟨b, 0, none⟩ : Addr).add j = ⟨b, j, none⟩ := by intro j; unfold Addr.add; split <;> simp_all
  have hrun := run_copy_rows (P := P) w dT sT o.type elem g dLen dCap ⟨b, 0, none⟩ sLen sCap sLen k cur.toArray t cs hu hs hg (Nat.min_eq_left hle).symm hcs (by intro j v hj; rw [hadd, hb.cell]; exact hj) (by simpa using hfit) h1
  unfold Oper.wp
  simp [execOp, ho, resolve, invoke, builtin, hd, hsv, hrun, Result.andThen]
  refine hK _ _ (h _ ?_ ?_)
  · exact ⟨rfl, rfl, rfl, by simp [World.setRow], fun i hi hn => setRow_other w g i _ hn⟩
  · exact setRow_heap w g cur.toArray _ t _ hg
theorem madeCells_flat {α : Type} (enc : α → List Value) (x0 : α) (k : Nat) (hk : ∀ x, (enc x).length = k) (hpos : 0 < k) (n : Nat) : (madeCells (enc x0).toArray (n * k)).toList = flat enc (List.replicate n x0) := by
  apply List.ext_getElem?
  intro m
  by_cases hm : m < n * k
  · have h1 : m / k < n := Nat.div_lt_of_lt_mul (by rw [Nat.mul_comm]; exact hm)
    have h2 : m % k < k := Nat.mod_lt _ hpos
    have h3 : m = m / k * k + m % k := by rw [Nat.mul_comm]; exact (Nat.div_add_mod m k).symm
    have q := flat_get hk (List.replicate n x0) (m / k) (m % k) (by simpa using h1) h2
    rw [← h3] at q
    rw [q]
    simp only [List.getElem_replicate]
    have e : (madeCells (enc x0).toArray (n * k)).toList[m]? = some ((enc x0).toArray[m % (enc x0).toArray.size]!) := by
      simp [madeCells, hm]
    rw [e]
    have hlt : m % k < (enc x0).length := by rw [hk]; exact h2
    rw [List.getElem?_eq_getElem hlt]
    simp [hk]
    rw [List.getElem?_eq_getElem hlt]; rfl
  · have l1 : (madeCells (enc x0).toArray (n * k)).toList.length = n * k := by simp [madeCells]
    have l2 : (flat enc (List.replicate n x0)).length = n * k := by rw [flat_length hk]; simp
    rw [List.getElem?_eq_none (by omega), List.getElem?_eq_none (by omega)]
theorem wpList_make_rows {P : Program} (w : World) {ops : Array Oper} {rest : List Oper} {o : Oper} {a : Act} {Q : Exit → Act → World → Prop} {α : Type} (enc : α → List Value) (x0 : α) (k : Nat) (hk : ∀ x, (enc x).length = k) (hpos : 0 < k)
    (hg : o.guard = none) (l : Operand) (t : TypeId) (hop : o.op = Op.makeSlice t l l)
    (e : TypeId) (bytes : Nat) (h1 : P.underlying t = some (.slice e)) (h2 : (P.info? e).map (fun i => (i.zero, i.size, i.bytes)) = some (some (.agg (enc x0).toArray), k, bytes))
    (L : Int) (n : Nat) (hl : a.eval l = .int .i64 L) (hL : L = (n : Int)) (b2 : bytes * n ≤ 281474976710656) (b3 : n ≤ maxLen)
    (hK : wpList P ops Q rest (a.put o.dst (S0 w.heap.size n)) (w.alloc (.cells (flat enc (List.replicate n x0)).toArray e))) :
    wpList P ops Q (o :: rest) a w := by
  obtain ⟨i, hi, hz, hs, hb⟩ := info_parts h2
  refine wpList_plain hg fun K hK' => ?_
  subst hL
  have h63' : (n : Int) ≤ 9223372036854775807 := by
    have h := b3
    simp [maxLen] at h
    omega
  have hb' : (i.bytes : Int) * (n : Int) ≤ 281474976710656 := by
    have h : ((i.bytes * n : Nat) : Int) ≤ 281474976710656 := by rw [hb]; omega
    rwa [Int.natCast_mul] at h
  have hr := run_make (P := P) w t e i (.agg (enc x0).toArray) h1 hi hz .i64 .i64 n n (by omega) (Int.le_refl _) hb' h63'
  simp only [Int.toNat_natCast, hs] at hr
  have e1 : madeCells (Value.agg (enc x0).toArray).cells (n * k) = (flat enc (List.replicate n x0)).toArray := by
    rw [← madeCells_flat enc x0 k hk hpos n]
    simp [Value.cells]
  rw [e1] at hr
  unfold Oper.wp
  simp [execOp, hop, hl, hr, Result.andThen]
  exact hK' _ _ hK
/-- Cells laid over a list from a place on. -/
def setL : List Value → Nat → List Value → List Value
  | cs, _, [] => cs
  | cs, o, v :: r => setL (cs.set o v) (o + 1) r
theorem setL_length : ∀ (vs cs : List Value) (o : Nat), (setL cs o vs).length = cs.length
  | [], cs, o => rfl
  | v :: r, cs, o => by rw [setL, setL_length r, List.length_set]
theorem setL_take : ∀ (vs cs : List Value) (o : Nat), o + vs.length ≤ cs.length → (setL cs o vs).take (o + vs.length) = cs.take o ++ vs
  | [], cs, o, _ => by simp [setL]
  | v :: r, cs, o, h => by
    simp only [List.length_cons] at h
    have ih := setL_take r (cs.set o v) (o + 1) (by rw [List.length_set]; omega)
    rw [setL, List.length_cons, show o + (r.length + 1) = o + 1 + r.length by omega, ih]
    have e : (cs.set o v).take (o + 1) = cs.take o ++ [v] := by
      rw [List.take_succ_eq_append_getElem (by rw [List.length_set]; omega), List.take_set_of_le (Nat.le_refl _), List.getElem_set_self]
    rw [e, List.append_assoc]
    rfl
theorem Blk.setCells {g : Nat} {T : TypeId} : ∀ (vs cs : List Value) (o : Nat) (w : World), Blk w g cs T → Blk (w.setCells g o vs) g (setL cs o vs) T
  | [], _, _, _, h => h
  | v :: r, cs, o, w, h => Blk.setCells r (cs.set o v) (o + 1) (w.setCell ⟨g, o, none⟩ v) (h.set o v)
theorem Fr.setCells {g : Nat} : ∀ (vs : List Value) (o : Nat) (w a : World) (own : Nat → Prop), Fr own a w → own g → Fr own a (w.setCells g o vs)
  | [], _, _, _, _, h, _ => h
  | v :: r, o, w, a, own, h, hg => Fr.setCells r (o + 1) (w.setCell ⟨g, o, none⟩ v) a own (h.setEq hg v) hg
/-- append, of some elements, to such a slice: it is one again, in its own block or in a new one. -/
theorem wpList_append_row {P : Program} (w : World) {ops : Array Oper} {rest : List Oper} {o : Oper} {a : Act} {Q : Exit → Act → World → Prop}
    (hg : o.guard = none) (s x : Operand) (t : TypeId) (hop : o.op = Op.call { callee := Callee.builtin Builtin.append, args := #[s, x], argTypes := #[t, t] })
    (E : TypeId) (z : Value) (k bytes : Nat) (h1 : P.underlying t = some (.slice E)) (hinfo : (P.info? E).map (fun i => (i.zero, i.size, i.bytes)) = some (some z, k, bytes)) (h6 : z.cells.size = k) (h7 : 0 < k)
    (v : Value) (n : Nat) (xs : List Value) (hs : a.eval s = v) (hrow : Row w E k v n xs)
    (ad : Addr) (m c : Nat) (news : List Value) (hx : a.eval x = .slice (some ad) m c) (hm : 0 < m) (hn : news.length = m * k) (hc : ∀ j u, news[j]? = some u → w.cell? (ad.add j) = some u) (h1c : ∀ u ∈ news, u.oneCell' = true)
    (b1 : n + m ≤ maxLen) (b2 : (n + m) * bytes ≤ 140737488355328)
    (hK : ∀ g' cap' w', Row w' E k (.slice (some ⟨g', 0, none⟩) (n + m) cap') (n + m) (xs ++ news) → Fr (fun b => v.ownBlock = some b) w w' → (v.ownBlock = some g' ∨ w.heap.size ≤ g') →
      wpList P ops Q rest (a.put o.dst (.slice (some ⟨g', 0, none⟩) (n + m) cap')) w') :
    wpList P ops Q (o :: rest) a w := by
  obtain ⟨i, h2, h3, h4, h5⟩ := info_parts hinfo
  have done : ∀ v' w' , w'.ownsRow w.heap.size E k v' (n + m) (xs ++ news) → w.grownBy w' none → wpList P ops Q rest (a.put o.dst v') w' := by
    intro v' w' how hgr
    rcases how.2 with ⟨_, h0⟩ | ⟨g, cap, cur, hv, hge, hh, hle, hcm, hsz, htk⟩
    · omega
    · subst hv
      refine hK g cap w' ⟨how.1, .inr ⟨g, cap, cur.toList, rfl, ?_, hle, hcm, ?_, htk⟩⟩ ⟨hgr.os, hgr.tape, hgr.output, hgr.size, fun k hk _ => hgr.block k hk (by simp)⟩ (.inr hge)
      · unfold Blk; simpa using hh
      · simp [hsz]
  rcases hrow.2 with ⟨hv, hn0⟩ | ⟨g, cap, cs, hv, hb, hle, hcm, hsz, htk⟩
  · subst hv; subst hn0
    have hx0 : xs = [] := List.eq_nil_of_length_eq_zero (by rw [hrow.1]; simp)
    subst hx0
    exact wpList_append_grows w hg s x t hop E i z k bytes h1 h2 h3 h4 h5 h6 h7 none 0 0 [] hs (fun _ => ⟨rfl, rfl⟩) (by simp) (by intro _ _ _ _ h; simp at h) ad m c news hx hn hc h1c (by omega) b1 b2 done
  · subst hv
    refine wpList_append_arg w hg s x t hop E i z k bytes h1 h2 h3 h4 h5 h6 h7 g 0 n cap xs hs hrow.1 ?_ ad m c news hx hn hc h1c ?_ b1 b2 ?_ (fun _ => done)
    · intro j u hj
      rw [Nat.zero_add, hb.cell]
      rw [← htk, List.getElem?_take] at hj
      split at hj
      · exact hj
      · cases hj
    · intro hr j hj
      have hlt : n * k + j < cs.length := by
        have q : (n + m) * k ≤ cap * k := Nat.mul_le_mul_right k hr
        rw [Nat.add_mul] at q
        omega
      rw [Nat.zero_add, hb.cell, hb.frozen]
      exact ⟨by rw [List.getElem?_eq_getElem hlt]; rfl, rfl⟩
    · intro hr
      have q : (n + m) * k ≤ cap * k := Nat.mul_le_mul_right k hr
      rw [Nat.add_mul] at q
      rw [Nat.zero_add]
      refine hK g cap _ ⟨by rw [List.length_append, hrow.1, hn, Nat.add_mul], .inr ⟨g, cap, _, rfl, hb.setCells news cs (n * k) w, hr, hcm, by rw [setL_length]; exact hsz, ?_⟩⟩ (Fr.setCells news (n * k) w w _ (Fr.refl _ _) rfl) (.inl rfl)
      have e : (n + m) * k = n * k + news.length := by rw [Nat.add_mul, hn]
      rw [e, setL_take news cs (n * k) (by omega), htk]
end Hop
end Go.Proofs.Ytlakojncjldpbaa
