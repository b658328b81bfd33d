/- Numbers as texts, unsigned; an operation bare, and as a line. -/
import Derived.Test.YtddihnnodegkmaaGreatDoorCf9
import Derived.Test.YtddihnnodegkmaaGreatDoorShS
namespace Go.Proofs.YtddihnnodegkmaaGreatDoor
open Go.RowKit Go.Sort Hop
set_option linter.unusedVariables false
set_option linter.unusedSimpArgs false
set_option maxRecDepth 100000
theorem holds_zero0 (w : World) (T : TypeId) (nd : Nat) (hs : nd ≤ 24) : Holds (fun (b : UInt8) => Value.int .u8 (b.toNat : Int)) (w.alloc (.cells Lib.zeros24 T)) w.heap.size 0 (Array.replicate nd (0 : UInt8)) := fun j hj => by
  have hj' : j < nd := by simpa using hj
  refine ⟨?_, World.frozen?_alloc_new _ _ _ _⟩
  rw [World.cell?_alloc_new, Lib.zeros24_at _ (by omega), getElem!_pos _ j hj]
  simp
theorem fin_zero (w : World) (o : Obj) (dk : Array UInt8) (k : Nat) : ∃ os, (putRow (fun (b : UInt8) => Value.int .u8 (b.toNat : Int)) (w.alloc o) w.heap.size 0 dk).drewN k = grow (w.drewN k) os := by
  rw [alloc_eq_grow]
  obtain ⟨os', _, e⟩ := putRow_grow_new (fun (b : UInt8) => Value.int .u8 (b.toNat : Int)) w #[o] w.heap.size 0 dk (Nat.le_refl _)
  exact ⟨os', by rw [e]; rfl⟩
set_option maxHeartbeats 3200000 in
theorem ifuint_big (u : Nat) (w : World) (hu1 : 100 ≤ u) (hu64 : u < 18446744073709551616) (htab : P10 w) :
    Calls Tryz.prog 46 #[.int .u64 (u : Int), .int .i64 10] w fun e w' => e = .returned (.string (dS u)) ∧ Below w.heap.size w w' := by
  have hnd20 : Lib.nDigits u ≤ 20 := by have := Lib.numDigits_eq u (by omega) hu64; split at this <;> omega
  have hal : Tryz.prog.arrayLen 109 = 24 := by simp [Program.arrayLen, Tryz.underlying109]
  have hsl1 : ∀ W, (Instr.sliceAt 109 (.pointer (some ⟨w.heap.size, 0, none⟩)) none (some (.int .i64 (Lib.nDigits u : Int))) none).run Tryz.prog W = .ok (.slice (some ⟨w.heap.size, 0, none⟩) (Lib.nDigits u) 24) W := fun W => by
    rw [run_sliceAt_array_h W 109 ⟨w.heap.size, 0, none⟩ (by simp [Program.arrayLen, Program.elem, Tryz.underlying109]) .i64 (Lib.nDigits u : Int) (by omega) (by rw [hal]; omega)]
    go_simp
  have hH0 := holds_zero0 w 109 (Lib.nDigits u) (by omega)
  have hfmt := Tryz.internal_strconv_formatBase10 w.heap.size 0 24 u (Array.replicate (Lib.nDigits u) 0) (w.alloc (.cells Lib.zeros24 109)) hH0 (by rw [Array.size_replicate]; exact Lib.lt_pow_nDigits u) hu64 (by rw [Array.size_replicate]; omega)
  rw [Array.size_replicate] at hfmt
  have HH0 := Lib.hid hH0
  have HF := Lib.hid hfmt
  have HND := Lib.hid (fun w h => Tryz.internal_strconv_numDigits u (by omega) hu64 w h)
  have HT := Lib.hid (Lib.tabIs_alloc htab (.cells Lib.zeros24 109))
  have hlt : ¬ ((u : Int) < 100) := by omega
  clear hH0 hal hfmt htab
  go_enter Tryz.func46, Tryz.ntmps46
  go_wp2_with fail
  refine (HND.out _ HT.out).mono ?_
  rintro e w' ⟨rfl, rfl⟩
  go_wp2_with fail
  refine HF.out.mono ?_
  rintro e w' ⟨rfl, k, v', dk, rfl, hF⟩
  have hcv : (convert 43 9 (.slice (some ⟨w.heap.size, 0, none⟩) (Lib.nDigits u) 24)).run Tryz.prog ((putRow (fun (b : UInt8) => Value.int .u8 (b.toNat : Int)) (w.alloc (.cells Lib.zeros24 109)) w.heap.size 0 dk).drewN k) = .ok (.string (dS u)) ((putRow (fun (b : UInt8) => Value.int .u8 (b.toNat : Int)) (w.alloc (.cells Lib.zeros24 109)) w.heap.size 0 dk).drewN k) := by
    have h := run_convert_bytes_back (P := Tryz.prog) ((putRow (fun (b : UInt8) => Value.int .u8 (b.toNat : Int)) (w.alloc (.cells Lib.zeros24 109)) w.heap.size 0 dk).drewN k) 43 9 5 ⟨w.heap.size, 0, none⟩ 24 (Lib.decDigits u) Tryz.underlying43 Tryz.underlying5 Tryz.underlying9 (fun j hj => by
      rw [Lib.row_is_numeral hF j hj, Lib.add_plain, World.cell?_drewN]
      exact cell?_putRow (fun (b : UInt8) => Value.int .u8 (b.toNat : Int)) _ w.heap.size 0 _ dk HH0.out (by rw [hF.size, Array.size_replicate]) j (by rw [hF.size]; rw [Lib.decDigits_length] at hj; exact hj))
    rw [Lib.decDigits_length] at h
    exact h
  obtain ⟨os, eo⟩ := fin_zero w (.cells Lib.zeros24 109) dk k
  have HB : Hid (Below w.heap.size w ((putRow (fun (b : UInt8) => Value.int .u8 (b.toNat : Int)) (w.alloc (.cells Lib.zeros24 109)) w.heap.size 0 dk).drewN k)) := Lib.hid (by rw [eo]; exact below_grow w k os)
  clear eo hF
  go_wp2_with fail
  go_ret
  exact ⟨rfl, HB.out⟩
set_option maxHeartbeats 800000 in
theorem ifuint_small (u : Nat) (w : World) (hu : u < 100) :
    Calls Tryz.prog 46 #[.int .u64 (u : Int), .int .i64 10] w fun e w' => e = .returned (.string (dS u)) ∧ Below w.heap.size w w' := by
  have HS := Lib.hid (fun w => Tryz.internal_strconv_small u hu w)
  have hlt : ((u : Int) < 100) := by omega
  clear hu
  go_enter Tryz.func46, Tryz.ntmps46
  go_wp2_with fail
  refine (HS.out _).mono ?_
  rintro e w' ⟨rfl, rfl⟩
  go_wp2_with fail
  go_ret
  exact ⟨rfl, Below.refl _ _⟩
set_option maxHeartbeats 800000 in
theorem fuint_any (u : Nat) (w : World) (hu : u < 18446744073709551616) (ht : P10 w) :
    Calls Tryz.prog 28 #[.int .u64 (u : Int), .int .i64 10] w fun e w' => e = .returned (.string (dS u)) ∧ Below w.heap.size w w' := by
  have H : Hid (Calls Tryz.prog 46 #[.int .u64 (u : Int), .int .i64 10] w fun e w' => e = .returned (.string (dS u)) ∧ Below w.heap.size w w') := Lib.hid (by
    by_cases h : u < 100
    · exact ifuint_small u w h
    · exact ifuint_big u w (by omega) hu ht)
  clear ht
  go_enter Tryz.func28, Tryz.ntmps28
  go_wp2_with fail
  refine H.out.mono ?_
  rintro e w1 ⟨rfl, hb⟩
  have HB := Lib.hid hb
  clear hb
  go_wp2_with fail
  go_ret
  exact ⟨rfl, HB.out⟩
end Go.Proofs.YtddihnnodegkmaaGreatDoor
