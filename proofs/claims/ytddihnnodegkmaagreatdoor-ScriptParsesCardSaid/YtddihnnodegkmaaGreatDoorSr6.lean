/- The reference's Parse: the walk. -/
import Derived.Test.YtddihnnodegkmaaGreatDoorSr5
import Derived.Test.YtddihnnodegkmaaGreatDoorSe3
namespace Go.Proofs.YtddihnnodegkmaaGreatDoor
open Go.RowKit Hop
set_option linter.unusedVariables false
set_option linter.unusedSimpArgs false
set_option maxRecDepth 100000
def szOf : Value → Nat
  | .string s => s.size
  | _ => 0
def RSaid (s : ByteArray) (w' : World) (n₀ : Nat) (e : Ending) : Prop :=
  (∃ v, e = .returned (.tuple #[v, .int .i64 0]) ∧ (∀ l ∈ lnF s.size s, okL l = true) ∧ w'.ownsRow n₀ 25 4 v (lnF s.size s).length (((lnF s.size s).map rdF).flatMap cOp)) ∨
  (∃ p x r, e = .returned (.tuple #[.slice none 0 0, .int .i64 ((p.length : Int) + 1)]) ∧ lnF s.size s = p ++ x :: r ∧ (∀ l ∈ p, okL l = true) ∧ okL x = false)
set_option maxHeartbeats 6400000 in
theorem rparse_any (s : ByteArray) (w : World) (hs : s.size ≤ 100000) : Calls Tryz.prog 11 #[.string s] w fun e w' => RSaid s w' w.heap.size e ∧ Below w.heap.size w w' := by
  have HLN := Go.Lib.hid (lnF_size s.size s rfl)
  go_enter Tryz.func11, Tryz.ntmps11
  go_wp2_with fail
  go_loopw [0, 4, 5] (fun t u i wr => ∃ (p : List ByteArray) (S : ByteArray), lnF s.size s = p ++ lnF S.size S ∧ S.size ≤ s.size ∧ t = .string S ∧ i = .int .i64 ((p.length : Int) + 1) ∧ (∀ l ∈ p, okL l = true) ∧ wr.ownsRow w.heap.size 25 4 u p.length ((p.map rdF).flatMap cOp) ∧ Below w.heap.size w wr) (fun t _ _ _ => szOf t)
  case atStart => exact ⟨[], s, rfl, Nat.le_refl _, rfl, rfl, by simp, World.ownsRow_nil _ _ _ _, Below.refl _ _⟩
  case round =>
    obtain ⟨p, S, hp, hS, rfl, rfl, hok, hrow, hB⟩ := hrel
    have HB := Go.Lib.hid hB
    have HR := Go.Lib.hid hrow
    have HP := Go.Lib.hid hp
    have HOK := Go.Lib.hid hok
    obtain ⟨ua, un, uc, rfl⟩ : ∃ ua un uc, u4 = .slice ua un uc := by
      rcases hrow.2 with ⟨h1, _⟩ | ⟨g, cap, cur, h1, _⟩
      · exact ⟨_, _, _, h1⟩
      · exact ⟨_, _, _, h1⟩
    clear hrow hB hp hok
    by_cases hz : S.size = 0
    · have HZ := Go.Lib.hid (lnF_zero S hz)
      go_wp2_with fail
      refine bodyPost_ret (v := .tuple #[.slice ua un uc, .int .i64 0]) (by simp [results, Tryz.results11, go_sem]) rfl ⟨.inl ⟨_, rfl, ?_, ?_⟩, HB.out⟩
      · rw [HP.out, HZ.out, List.append_nil]; exact HOK.out
      · rw [HP.out, HZ.out, List.append_nil]; exact HR.out
    have HZ := Go.Lib.hid (lnF_step S hz)
    have HSZ := Go.Lib.hid (cutB_size hz)
    have zc := cutB_size hz
    have HC := Go.Lib.hid (fun w => rcut_any S 10 w (by omega))
    have HRD := Go.Lib.hid (fun w => rread_is (cutA S) w (by omega))
    change Hid (∀ w, Calls Tryz.prog 22 #[.string S, .int .u8 10] w fun e w' => e = .returned (.tuple #[.string (cutA S), .string (cutB S), .bool (Lib.cut S.data.toList [10]).2.2]) ∧ Below w.heap.size w w') at HC
    clear zc
    generalize cutA S = A at *
    generalize hV : cutB S = V at *
    generalize (Lib.cut S.data.toList [10]).2.2 = M at *
    have hz' : ¬ S.size = 0 := hz
    go_wp2_with fail
    refine (HC.out _).mono ?_
    rintro e w1 ⟨rfl, hb⟩
    have HB1 := Go.Lib.hid hb
    clear hb
    go_wp2_with fail
    refine (HRD.out _).mono ?_
    rintro e w2 ⟨⟨o, rfl, ho, hrd⟩, hb⟩
    have HB2 := Go.Lib.hid hb
    have HRDF := Go.Lib.hid hrd
    clear hb hrd ho
    obtain ⟨ok, hk⟩ : ∃ ok, ok = okL A := ⟨_, rfl⟩
    have HK := Go.Lib.hid hk
    rw [← hk]
    clear hk
    have zp : p.length + 1 ≤ 100000 := by
      have h1 := HLN.out.2
      have h2 := congrArg List.length (HP.out.trans (by rw [HZ.out]))
      rw [List.length_append, List.length_cons] at h2
      omega
    have HB12 := Go.Lib.hid (HB1.out.trans (HB2.out.mono HB1.out.size))
    have HBB := Go.Lib.hid (HB.out.trans (HB12.out.mono HB.out.size))
    cases ok with
    | false =>
      go_wp2_with fail
      refine bodyPost_ret (v := .tuple #[.slice none 0 0, .int .i64 ((p.length : Int) + 1)]) (by simp [results, Tryz.results11, go_sem]) rfl ⟨.inr ⟨p, A, _, rfl, HP.out.trans (by rw [HZ.out]), HOK.out, HK.out.symm⟩, HBB.out.alloc HBB.out.size _⟩
    | true =>
      have HR2 := Go.Lib.hid (row_alloc (row_alloc (row_keep HR.out HB12.out) (.cells #[.int .i64 o.kind, .int .u64 o.key, .int .u64 o.val, .int .i64 o.n] 25)) (.cells #[.int .i64 o.kind, .int .u64 o.key, .int .u64 o.val, .int .i64 o.n] 25))
      have HX : Hid (((p ++ [A]).map rdF).flatMap cOp = (p.map rdF).flatMap cOp ++ cOp o) := Go.Lib.hid (by
        rw [HRDF.out HK.out.symm, List.map_append, List.flatMap_append]; simp)
      have HOK2 : Hid (∀ l ∈ p ++ [A], okL l = true) := Go.Lib.hid (fun l hl => by
        rcases List.mem_append.1 hl with h | h
        · exact HOK.out l h
        · rw [show l = A by simpa using h]; exact HK.out.symm)
      have HP2 : Hid (lnF s.size s = (p ++ [A]) ++ lnF V.size V) := Go.Lib.hid (by rw [HP.out, HZ.out]; simp)
      have HSV := Go.Lib.hid (show V.size ≤ s.size by have := HSZ.out; omega)
      have HSL := Go.Lib.hid (show V.size < S.size from HSZ.out.1)
      have HZB := Go.Lib.hid (show w.heap.size ≤ w2.heap.size from HBB.out.size)
      have hzb := HZB.out
      clear hV HOK HP HZ
      generalize (p.map rdF).flatMap cOp = C at *
      obtain ⟨i0, hi, hz0, hz1, hz2⟩ := info_parts op_info
      go_wp2_with (at_builtin; refine wpList_append_own _ rfl _ _ 22 rfl w.heap.size 25 i0 (.agg #[.int .i64 0, .int .u64 0, .int .u64 0, .int .i64 0]) 4 32 Tryz.underlying22 hi hz0 hz1 hz2 rfl (by decide) _ _ _ rfl HR2.out ⟨w2.heap.size + 1, 0, none⟩ 1 1 (cOp o) rfl rfl (cells_new1 _ _ _ _) (by simp [Value.oneCell']) (by unfold maxLen; omega) (by omega) (by simp; omega) ?_; intro v' w3 hown' hgrow _; have HO' := Go.Lib.hid hown'; have HG := Go.Lib.hid hgrow; clear hown' hgrow)
      go_roundw
      case rel =>
        refine ⟨p ++ [A], V, HP2.out, HSV.out, rfl, by simp, HOK2.out, by rw [HX.out]; simpa using HO'.out, ?_⟩
        refine below_grown ?_ (Nat.le_refl _) HG.out (row_own HR.out)
        exact (HBB.out.alloc HZB.out _).alloc (by simp; omega) _
      case measure => exact HSL.out
end Go.Proofs.YtddihnnodegkmaaGreatDoor
