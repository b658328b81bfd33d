/- The reference's numerals and cut: the walks. -/
import Derived.Test.YtddihnnodegkmaaGreatDoorSr2
namespace Go.Proofs.YtddihnnodegkmaaGreatDoor
open Go.RowKit Hop
set_option linter.unusedVariables false
set_option linter.unusedSimpArgs false
set_option maxRecDepth 100000
theorem ext_data (s : ByteArray) (a b : Nat) : (s.extract a b).data.toList = (s.data.toList.take b).drop a := by
  rw [ByteArray.data_extract, Array.toList_extract, List.extract_eq_take_drop, List.drop_take]
set_option maxHeartbeats 3200000 in
theorem rcut_any (s : ByteArray) (c : UInt8) (w : World) (hs : s.size ≤ 100000) : Calls Tryz.prog 22 #[.string s, .int .u8 (c.toNat : Int)] w fun e w' =>
    e = .returned (.tuple #[.string ⟨(Lib.cut s.data.toList [c]).1.toArray⟩, .string ⟨(Lib.cut s.data.toList [c]).2.1.toArray⟩, .bool (Lib.cut s.data.toList [c]).2.2]) ∧ Below w.heap.size w w' := by
  go_enter Tryz.func22, Tryz.ntmps22
  go_wp2_with fail
  go_loopw [7] (fun i wr => ∃ j : Nat, j ≤ s.size ∧ i = .int .i64 j ∧ c ∉ s.data.toList.take j ∧ Below w.heap.size w wr) (fun i _ => s.size - (intOf i).toNat)
  case atStart => exact ⟨0, Nat.zero_le _, rfl, by simp, Below.refl _ _⟩
  case round =>
    obtain ⟨j, hj, rfl, hn, hB⟩ := hrel
    have HB := Go.Lib.hid hB
    have HN := Go.Lib.hid hn
    clear hB hn
    by_cases hlt : j < s.size
    · by_cases hc : s[j] = c
      · have hq : ((s[j].toNat : Int) == (c.toNat : Int)) = true := by rw [hc]; simp
        have HC := Go.Lib.hid hc
        clear hc
        go_wp2_with fail
        go_quiet (fail)
        go_wp2_with fail
        refine bodyPost_ret (v := .tuple #[.string (s.extract 0 j), .string (s.extract (j + 1) s.size), .bool true]) (by simp [results, Tryz.results22, go_sem]) rfl ⟨?_, HB.out.os, HB.out.tape, HB.out.output, HB.out.size, HB.out.block⟩
        have e : s.data.toList = s.data.toList.take j ++ c :: s.data.toList.drop (j + 1) := by
          have q : s.data.toList[j]? = some c := by rw [Array.getElem?_toList, ← HC.out]; exact Array.getElem?_eq_getElem hlt
          obtain ⟨hj', q⟩ := List.getElem?_eq_some_iff.1 q
          rw [← q, ← List.drop_eq_getElem_cons hj', List.take_append_drop]
        have e1 : s.extract 0 j = ⟨(s.data.toList.take j).toArray⟩ := ba_ext (by rw [ext_data]; simp)
        have e2 : s.extract (j + 1) s.size = ⟨(s.data.toList.drop (j + 1)).toArray⟩ := ba_ext (by rw [ext_data, ← size_data, List.take_length])
        rw [e1, e2]
        have q := cut_clean (t := s.data.toList.drop (j + 1)) HN.out
        rw [← e] at q
        rw [q]
      · have hq : ((s[j].toNat : Int) == (c.toNat : Int)) = false := by
          rw [beq_eq_false_iff_ne]
          intro h
          exact hc (UInt8.toNat_inj.1 (by omega))
        have HC := Go.Lib.hid hc
        clear hc
        go_wp2_with fail
        go_roundw
        case rel =>
          refine ⟨j + 1, by omega, by go_num, ?_, HB.out⟩
          have e : s.data.toList[j]? = some s[j] := by rw [Array.getElem?_toList]; exact Array.getElem?_eq_getElem hlt
          rw [List.take_add_one, e]
          intro q
          rcases List.mem_append.1 q with q | q
          · exact HN.out q
          · have q' : c = s[j] := by simpa using q
            exact HC.out q'.symm
        case measure => simp [intOf]; omega
    · have e : j = s.size := by omega
      subst e
      go_wp2_with fail
      refine bodyPost_ret (v := .tuple #[.string s, .string ⟨#[]⟩, .bool false]) (by simp [results, Tryz.results22, go_sem]) rfl ⟨?_, HB.out⟩
      have q : c ∉ s.data.toList := by
        have := HN.out
        rwa [← size_data, List.take_length] at this
      rw [cut_free q]
theorem take_at {s : ByteArray} {j : Nat} (h : j < s.size) : s.data.toList.take (j + 1) = s.data.toList.take j ++ [s[j]] := by
  have e : s.data.toList[j]? = some s[j] := by rw [Array.getElem?_toList]; exact Array.getElem?_eq_getElem h
  rw [List.take_add_one, e]; rfl
theorem mem_at {s : ByteArray} {j : Nat} (h : j < s.size) : s[j] ∈ s.data.toList := by
  have e : s.data.toList[j]? = some s[j] := by rw [Array.getElem?_toList]; exact Array.getElem?_eq_getElem h
  exact List.mem_of_getElem? e
def NatE (l : List UInt8) (e : Ending) : Prop := ∃ (n : Nat) (b : Bool), e = .returned (.tuple #[.int .u64 n, .bool b]) ∧ NatR l n b
set_option maxHeartbeats 6400000 in
theorem rnatural_any (s : ByteArray) (w : World) (hs : s.size ≤ 100000) : Calls Tryz.prog 38 #[.string s] w fun e w' => NatE s.data.toList e ∧ Below w.heap.size w w' := by
  go_enter Tryz.func38, Tryz.ntmps38
  go_wp2_with fail
  go_loopw [4, 5] (fun n i wr => ∃ j : Nat, j ≤ s.size ∧ i = .int .i64 j ∧ (∃ v : Nat, n = .int .u64 v ∧ v < 18446744073709551616 ∧ v = vl 0 (s.data.toList.take j)) ∧ (∀ c ∈ s.data.toList.take j, 48 ≤ c.toNat ∧ c.toNat ≤ 57) ∧ (j = 0 ∨ s.size ≤ 20) ∧ Below w.heap.size w wr) (fun _ i _ => s.size - (intOf i).toNat)
  case atStart => exact ⟨0, Nat.zero_le _, rfl, ⟨0, rfl, by omega, rfl⟩, by simp, .inl rfl, Below.refl _ _⟩
  case round =>
    obtain ⟨j, hj, rfl, ⟨v, rfl, hv, ev⟩, hd, h20, hB⟩ := hrel
    have HB := Go.Lib.hid hB
    have HD := Go.Lib.hid hd
    have EV := Go.Lib.hid ev
    have H20 := Go.Lib.hid h20
    clear hB hd ev h20
    by_cases hlt : j < s.size
    · have HM := Go.Lib.hid (mem_at hlt)
      have HT := Go.Lib.hid (take_at hlt)
      by_cases c1 : (s[j].toNat : Int) < 48
      · go_wp2_with fail
        refine bodyPost_ret (v := .tuple #[.int .u64 0, .bool false]) (by simp [results, Tryz.results38, go_sem]) rfl ⟨⟨0, false, rfl, natR_char HM.out (.inl (by omega))⟩, HB.out.os, HB.out.tape, HB.out.output, HB.out.size, HB.out.block⟩
      by_cases c2 : 57 < (s[j].toNat : Int)
      · go_wp2_with fail
        refine bodyPost_ret (v := .tuple #[.int .u64 0, .bool false]) (by simp [results, Tryz.results38, go_sem]) rfl ⟨⟨0, false, rfl, natR_char HM.out (.inr (by omega))⟩, HB.out.os, HB.out.tape, HB.out.output, HB.out.size, HB.out.block⟩
      by_cases c3 : 20 < (s.size : Int)
      · go_wp2_with fail
        refine bodyPost_ret (v := .tuple #[.int .u64 0, .bool false]) (by simp [results, Tryz.results38, go_sem]) rfl ⟨⟨0, false, rfl, natR_long (by rw [size_data]; omega)⟩, HB.out.os, HB.out.tape, HB.out.output, HB.out.size, HB.out.block⟩
      have EV' : Hid (vl 0 (s.data.toList.take (j + 1)) = 10 * v + (s[j].toNat - 48)) := Go.Lib.hid (by rw [HT.out, vl_snoc, ← EV.out])
      by_cases c4 : (18446744073709551615 - ((s[j].toNat : Int) - 48)) / 10 < (v : Int)
      · go_wp2_with fail
        refine bodyPost_ret (v := .tuple #[.int .u64 0, .bool false]) (by simp [results, Tryz.results38, go_sem]) rfl ⟨⟨0, false, rfl, natR_over (List.take_append_drop (j + 1) _).symm (by rw [EV'.out]; omega)⟩, HB.out.os, HB.out.tape, HB.out.output, HB.out.size, HB.out.block⟩
      go_wp2_with fail
      go_roundw
      case rel =>
        refine ⟨j + 1, by omega, by go_num, ⟨10 * v + (s[j].toNat - 48), by congr 1; omega, by omega, EV'.out.symm⟩, ?_, .inr (by omega), HB.out⟩
        intro c hc
        rw [HT.out] at hc
        rcases List.mem_append.1 hc with q | q
        · exact HD.out c q
        · have q' : c = s[j] := by simpa using q
          subst q'
          omega
      case measure => simp [intOf]; omega
    · have e : j = s.size := by omega
      subst e
      have HE := Go.Lib.hid (fun (b : Bool) (hb : b = true ↔ (s.data.toList ≠ [] ∧ (s.data.toList.length = 1 ∨ s.data.toList.head? ≠ some 48))) => show NatR s.data.toList v b by
        have h1 := HD.out
        have h2 := EV.out
        rw [← size_data, List.take_length] at h1 h2
        rw [h2]
        rw [h2] at hv
        exact natR_end h1 hv b hb)
      clear EV HD H20
      have ZL := Go.Lib.hid (size_data s)
      by_cases c0 : s.size = 0
      · have HZ := Go.Lib.hid c0
        go_wp2_with fail
        go_quiet (fail)
        go_wp2_with fail
        refine bodyPost_ret (v := .tuple #[.int .u64 v, .bool false]) (by simp [results, Tryz.results38, go_sem]) rfl ⟨⟨v, false, rfl, HE.out false ?_⟩, HB.out.os, HB.out.tape, HB.out.output, HB.out.size, HB.out.block⟩
        have : s.data.toList = [] := List.eq_nil_of_length_eq_zero (by rw [ZL.out, HZ.out])
        simp [this]
      have HN := Go.Lib.hid (show s.data.toList ≠ [] from fun e => c0 (by rw [← ZL.out, e]; rfl))
      by_cases c1 : s.size = 1
      · have HZ := Go.Lib.hid c1
        go_wp2_with fail
        go_quiet (fail)
        go_wp2_with fail
        refine bodyPost_ret (v := .tuple #[.int .u64 v, .bool true]) (by simp [results, Tryz.results38, go_sem]) rfl ⟨⟨v, true, rfl, HE.out true ?_⟩, HB.out.os, HB.out.tape, HB.out.output, HB.out.size, HB.out.block⟩
        exact ⟨fun _ => ⟨HN.out, .inl (by rw [ZL.out, HZ.out])⟩, fun _ => rfl⟩
      have l0 : 0 < s.size := by omega
      have hz1 : ((s.size : Int) == 1) = false := by rw [beq_eq_false_iff_ne]; omega
      have HH : Hid (s.data.toList.head? = some s[0]) := Go.Lib.hid (by
        rw [List.head?_eq_getElem?, Array.getElem?_toList]; exact Array.getElem?_eq_getElem l0)
      have HL := Go.Lib.hid (show s.data.toList.length ≠ 1 by rw [ZL.out]; exact c1)
      by_cases c2 : s[0] = 48
      · have q : ((s[0].toNat : Int) == 48) = true := by rw [c2]; rfl
        have HC2 := Go.Lib.hid c2
        clear c2
        go_wp2_with fail
        go_quiet (fail)
        go_wp2_with fail
        refine bodyPost_ret (v := .tuple #[.int .u64 v, .bool false]) (by simp [results, Tryz.results38, go_sem]; rw [HC2.out]; rfl) rfl ⟨⟨v, false, rfl, HE.out false ?_⟩, HB.out.os, HB.out.tape, HB.out.output, HB.out.size, HB.out.block⟩
        rw [HH.out, HC2.out]
        refine ⟨(fun h => by cases h), fun h => ?_⟩
        rcases h.2 with h | h
        · exact absurd h HL.out
        · exact absurd rfl h
      · have q : ((s[0].toNat : Int) == 48) = false := by
          rw [beq_eq_false_iff_ne]
          intro h
          exact c2 (UInt8.toNat_inj.1 (by show s[0].toNat = 48; omega))
        have HC2 := Go.Lib.hid c2
        clear c2
        go_wp2_with fail
        go_quiet (fail)
        go_wp2_with fail
        refine bodyPost_ret (v := .tuple #[.int .u64 v, .bool true]) (by simp [results, Tryz.results38, go_sem]; intro h; exact HC2.out (UInt8.toNat_inj.1 (by show s[0].toNat = 48; omega))) rfl ⟨⟨v, true, rfl, HE.out true ?_⟩, HB.out.os, HB.out.tape, HB.out.output, HB.out.size, HB.out.block⟩
        rw [HH.out]
        exact ⟨fun _ => ⟨HN.out, .inr (fun h => HC2.out (by injection h))⟩, fun _ => rfl⟩
end Go.Proofs.YtddihnnodegkmaaGreatDoor
