/- A line is read as its operation: the plain law. -/
import Derived.Test.YtddihnnodegkmaaGreatDoorSd1
namespace Go.Proofs.YtddihnnodegkmaaGreatDoor
open Go.RowKit Hop
set_option linter.unusedVariables false
set_option linter.unusedSimpArgs false
theorem app_data (a b : ByteArray) : (a ++ b).data.toList = a.data.toList ++ b.data.toList := by
  rw [ByteArray.data_append, Array.toList_append]
def lineL (o : Op4) : List UInt8 :=
  if o.kind = 1 then [103, 101, 116] ++ 32 :: Lib.decDigits o.key.toNat
  else if o.kind = 2 then [112, 117, 116] ++ 32 :: (Lib.decDigits o.key.toNat ++ 32 :: Lib.decDigits o.val.toNat)
  else if o.kind = 3 then [100, 101, 108, 101, 116, 101] ++ 32 :: Lib.decDigits o.key.toNat
  else if o.kind = 4 then [114, 101, 115, 105, 122, 101] ++ 32 :: Lib.itoa o.n
  else if o.kind = 5 then [108, 101, 110]
  else [111, 112] ++ 32 :: Lib.itoa o.kind
theorem lineF_data (o : Op4) : (lineF o).data.toList = lineL o := by
  unfold lineF lineL
  (repeat' split) <;> simp only [app_data, sGet, sPut, sDel, sRes, sLen, sOpS, sSp, List.cons_append, List.nil_append, List.append_assoc]
theorem lineF_bare (o : Op4) : lineF (bareF o) = lineF o := by
  unfold lineF bareF
  (repeat' split) <;> simp_all
theorem rdW_line {o : Op4} (h : o.ok) : rdW (wdL (lineL o)) = bareF o := by
  obtain ⟨k0, k1, y0, y1, v0, v1, n0, n1⟩ := h
  have uk : uL (Lib.decDigits o.key.toNat) = o.key := by rw [uL_digits (by omega)]; omega
  have uv : uL (Lib.decDigits o.val.toNat) = o.val := by rw [uL_digits (by omega)]; omega
  unfold lineL
  by_cases h1 : o.kind = 1
  · rw [if_pos h1, wdL_cons (by decide), wdL_free (no32_digits _)]
    unfold rdW knL bareF
    simp only [List.getD_cons_zero, List.getD_cons_succ, uk, h1, if_true]
    try rfl
  rw [if_neg h1]
  by_cases h2 : o.kind = 2
  · rw [if_pos h2, wdL_cons (by decide), wdL_cons (no32_digits _), wdL_free (no32_digits _)]
    unfold rdW knL bareF
    simp only [List.getD_cons_zero, List.getD_cons_succ, uk, uv, h2, if_true]
    try rfl
  rw [if_neg h2]
  by_cases h3 : o.kind = 3
  · rw [if_pos h3, wdL_cons (by decide), wdL_free (no32_digits _)]
    unfold rdW knL bareF
    simp only [List.getD_cons_zero, List.getD_cons_succ, uk, h3, if_true]
    try rfl
  rw [if_neg h3]
  by_cases h4 : o.kind = 4
  · rw [if_pos h4, wdL_cons (by decide), wdL_free (no32_itoa _)]
    unfold rdW knL bareF
    simp only [List.getD_cons_zero, List.getD_cons_succ, aL_itoa n0 n1, h4, if_true]
    try rfl
  rw [if_neg h4]
  by_cases h5 : o.kind = 5
  · rw [if_pos h5, wdL_free (by decide)]
    unfold rdW knL bareF
    simp only [List.getD_cons_zero, List.getD_cons_succ, h5]
    rfl
  rw [if_neg h5, wdL_cons (by decide), wdL_free (no32_itoa _)]
  unfold rdW knL
  simp only [List.getD_cons_zero, List.getD_cons_succ, aL_itoa k0 k1]
  unfold bareF
  simp [h1, h2, h3, h4, h5]
theorem rdF_line {o : Op4} (h : o.ok) : rdF (lineF o) = bareF o := by rw [rdF_data, lineF_data, rdW_line h]
theorem okL_line {o : Op4} (h : o.ok) : okL (lineF o) = true := by
  unfold okL
  rw [rdF_line h, lineF_bare]
  simp
theorem lineF_no10 (o : Op4) : (10 : UInt8) ∉ (lineF o).data.toList := by
  rw [lineF_data]
  unfold lineL
  have a := no10_digits o.key.toNat
  have b := no10_digits o.val.toNat
  have c := no10_itoa o.n
  have d := no10_itoa o.kind
  (repeat' split) <;> simp_all
/-- What a line begins with. -/
theorem lineF_head (o : Op4) : (lineF o).data.toList.head? ≠ some 120 := by
  rw [lineF_data]
  unfold lineL
  (repeat' split) <;> simp
theorem ba_ext {a b : ByteArray} (h : a.data.toList = b.data.toList) : a = b := by
  apply ByteArray.ext
  exact Array.toList_inj.1 h
theorem size_data (s : ByteArray) : s.data.toList.length = s.size := by rw [Array.length_toList]; rfl
/-- A text's lines: one, and what lies behind it. -/
theorem lnF_line {a t : ByteArray} (h : (10 : UInt8) ∉ a.data.toList) : lnF (a ++ ⟨#[10]⟩ ++ t).size (a ++ ⟨#[10]⟩ ++ t) = a :: lnF t.size t := by
  have e : (a ++ (⟨#[10]⟩ : ByteArray) ++ t).data.toList = a.data.toList ++ 10 :: t.data.toList := by
    rw [app_data, app_data]; simp
  have hne : (a ++ (⟨#[10]⟩ : ByteArray) ++ t).size ≠ 0 := by
    rw [← size_data, e]; simp
  rw [lnF_step _ hne]
  have ea : cutA (a ++ (⟨#[10]⟩ : ByteArray) ++ t) = a := by
    apply ba_ext
    show (Lib.cut _ [10]).1.toArray.toList = _
    rw [e, cut_clean h]
  have eb : cutB (a ++ (⟨#[10]⟩ : ByteArray) ++ t) = t := by
    apply ba_ext
    show (Lib.cut _ [10]).2.1.toArray.toList = _
    rw [e, cut_clean h]
  rw [ea, eb]
theorem textF_cons (o : Op4) (L : List Op4) (t : ByteArray) : textF (o :: L) ++ t = lineF o ++ ⟨#[10]⟩ ++ (textF L ++ t) := by
  apply ba_ext
  simp only [app_data]
  show (textL (o :: L)).toArray.toList ++ _ = _
  simp [textL]
theorem lnF_text (L : List Op4) (t : ByteArray) : lnF (textF L ++ t).size (textF L ++ t) = L.map lineF ++ lnF t.size t := by
  induction L with
  | nil =>
    have e : textF [] ++ t = t := by apply ba_ext; rw [app_data]; simp [textL]
    rw [e]; rfl
  | cons o L ih => rw [textF_cons, lnF_line (lineF_no10 o), ih]; rfl
theorem lnF_text0 (L : List Op4) : lnF (textF L).size (textF L) = L.map lineF := by
  have h := lnF_text L ⟨#[]⟩
  have e : textF L ++ (⟨#[]⟩ : ByteArray) = textF L := by apply ba_ext; rw [app_data]; simp
  rw [e] at h
  rw [h]
  simp [lnF, ByteArray.size]
theorem textF_append (A B : List Op4) : textF (A ++ B) = textF A ++ textF B := by
  apply ba_ext
  rw [app_data]
  simp [textL]
theorem lnF_size : ∀ (n : Nat) (s : ByteArray), s.size = n → (∀ l ∈ lnF s.size s, l.size ≤ s.size) ∧ (lnF s.size s).length ≤ s.size := by
  intro n
  induction n using Nat.strongRecOn with
  | _ n ih =>
    intro s hs
    by_cases hz : s.size = 0
    · rw [lnF_zero s hz]; simp
    · have hb := cutB_size hz
      rw [lnF_step s hz]
      have h := ih (cutB s).size (by omega) (cutB s) rfl
      constructor
      · intro l hl
        rcases List.mem_cons.1 hl with rfl | hl
        · exact hb.2
        · have := h.1 l hl; omega
      · rw [List.length_cons]; have := h.2; omega
/-- Lines, each with its line feed. -/
def jnL (L : List ByteArray) : List UInt8 := L.flatMap fun l => l.data.toList ++ [10]
theorem jn_lines : ∀ (n : Nat) (s : ByteArray), s.size = n → jnL (lnF s.size s) = s.data.toList ∨ jnL (lnF s.size s) = s.data.toList ++ [10] := by
  intro n
  induction n using Nat.strongRecOn with
  | _ n ih =>
    intro s hs
    by_cases hz : s.size = 0
    · left
      rw [lnF_zero s hz]
      have e : s.data.toList = [] := List.length_eq_zero_iff.1 (by rw [size_data]; exact hz)
      rw [e]; rfl
    · have hb := cutB_size hz
      rw [lnF_step s hz]
      have h := ih (cutB s).size (by omega) (cutB s) rfl
      have ej : jnL (cutA s :: lnF (cutB s).size (cutB s)) = (cutA s).data.toList ++ 10 :: jnL (lnF (cutB s).size (cutB s)) := by simp [jnL]
      by_cases hm : (10 : UInt8) ∈ s.data.toList
      · obtain ⟨a, t, e, hn⟩ := List.eq_append_cons_of_mem hm
        have e1 : (cutA s).data.toList = a := by show (Lib.cut _ [10]).1.toArray.toList = _; rw [e, cut_clean hn]
        have e2 : (cutB s).data.toList = t := by show (Lib.cut _ [10]).2.1.toArray.toList = _; rw [e, cut_clean hn]
        rw [ej, e1, e]
        rw [e2] at h
        rcases h with h | h
        · left; rw [h]
        · right; rw [h]; simp
      · right
        have e1 : (cutA s).data.toList = s.data.toList := by show (Lib.cut _ [10]).1.toArray.toList = _; rw [cut_free hm]
        have e2 : (cutB s).data.toList = [] := by show (Lib.cut _ [10]).2.1.toArray.toList = _; rw [cut_free hm]
        have e3 : (cutB s).size = 0 := by rw [← size_data, e2]; rfl
        rw [ej, e1, lnF_zero _ e3]; rfl
theorem okL_eq {l : ByteArray} (h : okL l = true) : lineF (rdF l) = l := by
  unfold okL at h
  rw [beq_iff_eq] at h
  exact (str_eq _ _).1 h
theorem flat_same {α β : Type} (f g : α → List β) : ∀ (L : List α), (∀ l ∈ L, f l = g l) → L.flatMap f = L.flatMap g
  | [], _ => rfl
  | x :: L, h => by rw [List.flatMap_cons, List.flatMap_cons, h x (by simp), flat_same f g L (fun l hl => h l (by simp [hl]))]
theorem text_once {s : ByteArray} (h : ∀ l ∈ lnF s.size s, okL l = true) : textF ((lnF s.size s).map rdF) = s ∨ textF ((lnF s.size s).map rdF) = s ++ ⟨#[10]⟩ := by
  have e : textL ((lnF s.size s).map rdF) = jnL (lnF s.size s) := by
    unfold textL jnL
    rw [List.flatMap_map]
    exact flat_same _ _ (lnF s.size s) (fun l hl => by rw [okL_eq (h l hl)])
  rcases jn_lines s.size s rfl with q | q
  · left
    apply ba_ext
    show (textL _).toArray.toList = _
    rw [e, q]
  · right
    apply ba_ext
    rw [app_data]
    show (textL _).toArray.toList = _
    rw [e, q]
end Go.Proofs.YtddihnnodegkmaaGreatDoor
