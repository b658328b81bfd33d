/- The reference's natural numbers, operations and lines: the walks. -/
import Derived.Test.YtddihnnodegkmaaGreatDoorSr7
import Derived.Deep.RegionWith
namespace Go.Proofs.YtddihnnodegkmaaGreatDoor
open Go.RowKit Hop
set_option linter.unusedVariables false
set_option linter.unusedSimpArgs false
set_option maxRecDepth 100000
theorem conv_blk {W : World} {b : Nat} {x : Int} (h : Blk W b [.int .u8 x] 5) (d : Nat) (hd : d < 10) (hx : x = 48 + d) : (convert 43 9 (.slice (some ⟨b, 0, none⟩) 1 1)).run Tryz.prog W = .ok (.string ⟨[UInt8.ofNat (48 + d)].toArray⟩) W := by
  have h := run_convert_bytes_back (P := Tryz.prog) W 43 9 5 ⟨b, 0, none⟩ 1 [UInt8.ofNat (48 + d)] Tryz.underlying43 Tryz.underlying5 Tryz.underlying9 (fun j hj => by
    obtain rfl : j = 0 := by simp at hj; omega
    have q := h.cell 0
    have e : ((⟨b, 0, none⟩ : Addr).add 0) = ⟨b, 0, none⟩ := by simp [Addr.add]
    rw [e, q]
    have : (UInt8.ofNat (48 + d)).toNat = 48 + d := by simp; omega
    simp only [List.getElem?_cons_zero, List.getElem_cons_zero, this]
    rw [hx]; simp)
  exact h
set_option maxHeartbeats 3200000 in
theorem nat10_step (m : Nat) (w : World) (hm : m < 18446744073709551616) (ih : Hid (∀ w, Calls Tryz.prog 30 #[.int .u64 ((m : Int) / 10)] w fun e w' => e = .returned (.string (dS (m / 10))) ∧ Below w.heap.size w w') ∨ m < 10) :
    Calls Tryz.prog 30 #[.int .u64 (m : Int)] w fun e w' => e = .returned (.string (dS m)) ∧ Below w.heap.size w w' := by
  have h0 : 0 ≤ (m : Int) := by omega
  have h1 : (m : Int) < 18446744073709551616 := by omega
  have d0 : 0 ≤ (m : Int) % 10 := by omega
  have d1 : (m : Int) % 10 < 10 := by omega
  obtain ⟨S, hS⟩ : ∃ S : ByteArray, S = ⟨[UInt8.ofNat (48 + m % 10)].toArray⟩ := ⟨_, rfl⟩
  have zS : S.size = 1 := by rw [hS]; rfl
  by_cases hs : m < 10
  · have hk := conv_one w (48 + (m : Int)) (m % 10) (by omega) (by omega)
    rw [← hS] at hk
    have hq : (m : Int) < 10 := by omega
    have e : Hid (dS m = S) := Go.Lib.hid (by rw [hS, dS_small hs, Nat.mod_eq_of_lt hs])
    have HB := Go.Lib.hid ((Below.refl w.heap.size w).alloc (Nat.le_refl _) (.cells #[.int .u8 (48 + (m : Int))] 5))
    clear ih hs hm hS d0 d1
    go_enter Tryz.func30, Tryz.ntmps30
    go_wp2_with fail
    go_ret
    exact ⟨by rw [e.out] <;> rfl, HB.out⟩
  · have hq : ¬ ((m : Int) < 10) := by omega
    have HK : Hid (∀ (W : World) (b : Nat), Blk W b [.int .u8 (48 + (m : Int) % 10)] 5 → (convert 43 9 (.slice (some ⟨b, 0, none⟩) 1 1)).run Tryz.prog W = .ok (.string S) W) := Go.Lib.hid (fun W b h => by rw [hS]; exact conv_blk h (m % 10) (by omega) (by omega))
    have IH := ih.resolve_right hs
    have e : Hid (dS m = dS (m / 10) ++ S) := Go.Lib.hid (by rw [hS]; exact dS_big hs)
    have z : (dS (m / 10)).size ≤ 20 := dS_size' (by omega)
    have k1 : ¬ (9223372036854775807 < (dS (m / 10)).size + 1) := by omega
    generalize dS (m / 10) = D at *
    clear ih hs hm hS
    go_enter Tryz.func30, Tryz.ntmps30
    go_wp2_with fail
    have e1 : IntKind.u64.wrap ((m : Int) / 10) = (m : Int) / 10 := IntWalk.u64_in _ (by omega)
    have e2 : (m : Int).tmod 10 = (m : Int) % 10 := Int.tmod_eq_emod_of_nonneg h0
    have e3 : IntKind.u64.wrap (48 + (m : Int) % 10) = 48 + (m : Int) % 10 := IntWalk.u64_in _ (by omega)
    have e4 : IntKind.u8.wrap (48 + (m : Int) % 10) = 48 + (m : Int) % 10 := IntWalk.u8_in _ (by omega)
    have b0 : Blk (w.alloc (.cells #[.int .u8 (48 + (m : Int) % 10)] 5)).drew w.heap.size [.int .u8 (48 + (m : Int) % 10)] 5 := (Blk.new0 w [.int .u8 (48 + (m : Int) % 10)] 5).drew
    have hk0 := HK.out _ _ b0
    have HB1 := Go.Lib.hid (fun w1 (hb1 : Below (w.alloc (.cells #[.int .u8 (48 + (m : Int) % 10)] 5)).drew.heap.size (w.alloc (.cells #[.int .u8 (48 + (m : Int) % 10)] 5)).drew w1) => HK.out w1 w.heap.size (b0.keep hb1))
    have HB2 := Go.Lib.hid (fun w1 => HK.out (w1.alloc (.cells #[.int .u8 (48 + (m : Int) % 10)] 5)) _ (Blk.new0 w1 [.int .u8 (48 + (m : Int) % 10)] 5))
    have HBa := Go.Lib.hid (fun w1 (hb1 : Below w.drew.heap.size w.drew w1) => (((Below.refl w.heap.size w).drew.trans hb1).alloc (((Below.refl w.heap.size w).drew.trans hb1).size) (.cells #[.int .u8 (48 + (m : Int) % 10)] 5) : Below w.heap.size w (w1.alloc (.cells #[.int .u8 (48 + (m : Int) % 10)] 5))))
    have HBb := Go.Lib.hid (fun w1 (hb1 : Below (w.alloc (.cells #[.int .u8 (48 + (m : Int) % 10)] 5)).drew.heap.size (w.alloc (.cells #[.int .u8 (48 + (m : Int) % 10)] 5)).drew w1) => ((((Below.refl w.heap.size w).alloc (Nat.le_refl _) (.cells #[.int .u8 (48 + (m : Int) % 10)] 5)).drew.trans (hb1.mono (by simp))) : Below w.heap.size w w1))
    clear b0
    go_region_with (go_at_call 30; refine (IH.out _).mono ?_; rintro e w1 ⟨rfl, hb1⟩; have z1 := hb1.size; (first | (have hk1 := HB1.out w1 (by with_reducible exact hb1)) | (have hk1 := HB2.out w1)))
    all_goals go_wp2_with fail
    all_goals go_ret
    all_goals refine ⟨by rw [e.out] <;> rfl, ?_⟩
    all_goals first | (with_reducible exact HBa.out w1 hb1) | (with_reducible exact HBb.out w1 hb1)
theorem nat10_any (m : Nat) : m < 18446744073709551616 → ∀ w, Calls Tryz.prog 30 #[.int .u64 (m : Int)] w fun e w' => e = .returned (.string (dS m)) ∧ Below w.heap.size w w' := by
  induction m using Nat.strongRecOn with
  | _ m ih =>
    intro hm w
    refine nat10_step m w hm ?_
    by_cases hs : m < 10
    · exact .inr hs
    · refine .inl (Go.Lib.hid (fun w => ?_))
      have h := ih (m / 10) (by omega) (by omega) w
      rwa [show ((m / 10 : Nat) : Int) = (m : Int) / 10 by omega] at h
end Go.Proofs.YtddihnnodegkmaaGreatDoor
