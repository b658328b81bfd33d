/- The statement ConfigTells: the walk. -/
import Derived.Test.YtddihnnodegkmaaDoorCf7
import Derived.Test.YtddihnnodegkmaaDoorCf8
namespace Go.Proofs.YtddihnnodegkmaaDoor
open Go.RowKit Go.Extern.Stop Go.Stop Go.Extern Hop
set_option linter.unusedVariables false
set_option linter.unusedSimpArgs false
set_option maxRecDepth 100000
/-- The library's table of powers. -/
abbrev P10 (w : World) : Prop := Lib.TabIs Tryd.prog w "internal/strconv.uint64pow10" .u64 Lib.pow10Tab
theorem P10.keep {w w' : World} (h : P10 w) (hb : Below w.heap.size w w') : P10 w' := by
  have hg : Tryd.prog.globalNamed "internal/strconv.uint64pow10" = some 1 := by kernel_rfl
  unfold P10 Lib.TabIs World.var? at h ⊢
  rw [hg] at h ⊢
  simp only [Option.bind_some] at h ⊢
  have hlt : 1 < w.heap.size := by
    rcases Nat.lt_or_ge 1 w.heap.size with h' | h'
    · exact h'
    · rw [Array.getElem?_eq_none h'] at h; cases h
  rw [hb.block 1 hlt]
  exact h
theorem below_grow (w : World) (q : Nat) (os : Array Obj) : Below w.heap.size w (Sort.grow (w.drewN q) os) :=
  ⟨rfl, rfl, rfl, by simp [Sort.grow], fun i hi => by
    show ((w.drewN q).heap ++ os)[i]? = _
    rw [Array.getElem?_append_left (by show i < w.heap.size; omega)]
    rfl⟩
theorem itoa_any (n : Int) (w : World) (h1 : -9223372036854775808 ≤ n) (h2 : n ≤ 9223372036854775807) (ht : P10 w) : Calls Tryd.prog 33 #[.int .i64 n] w fun e w' => e = .returned (.string (iS n)) ∧ Below w.heap.size w w' :=
  (Tryd.strconv_Itoa n h1 h2 w ht).mono (fun e w' ⟨h1, q, os, h2⟩ => ⟨h1, by rw [h2]; exact below_grow w q os⟩)
set_option maxHeartbeats 6400000 in
theorem ctells_long (f : ByteArray) (n c0 c1 : Int) (w : World) (hf : 100 < f.size) (hg : Ety w) :
    Calls Tryd.prog 6 #[.string f, .int .i64 n, .agg #[.int .u8 c0, .int .u8 c1]] w fun e w' => e = .returned (.bool true) ∧ Below w.heap.size w w' := by
  obtain ⟨W, hW⟩ : ∃ W, W = w.alloc (.cells #[.int .u8 c0, .int .u8 c1] 37) := ⟨_, rfl⟩
  have B0 : Below w.heap.size w W := by rw [hW]; exact (Below.refl _ _).alloc (Nat.le_refl _) _
  have b0 : Blk W w.heap.size [.int .u8 c0, .int .u8 c1] 37 := by rw [hW]; exact Blk.new0 w [.int .u8 c0, .int .u8 c1] 37
  have HA := Go.Lib.hid (cawake_any W (hg.keep B0))
  have HW := Go.Lib.hid hW
  have HB0 := Go.Lib.hid B0
  have Hb0 := Go.Lib.hid b0
  clear hW B0 b0 hg
  go_enter Tryd.func6, Tryd.ntmps6
  go_wp2_with fail
  rw [← HW.out]
  refine HA.out.mono ?_
  rintro e w1 ⟨rfl, hb1⟩
  have HB1 := Go.Lib.hid (HB0.out.trans (hb1.mono HB0.out.size))
  have g1 := (Hb0.out.keep hb1).cell 1
  simp only [List.getElem?_cons_zero, List.getElem?_cons_succ] at g1
  have gl := (Hb0.out.keep hb1).lt
  clear hb1
  go_wp2_with fail
  go_ret
  exact ⟨rfl, HB1.out⟩
set_option maxHeartbeats 6400000 in
theorem ctells_any (f : ByteArray) (n c0 c1 : Int) (w : World) (hf : f.size ≤ 100) (h1 : -9223372036854775808 ≤ n) (h2 : n ≤ 9223372036854775807) (hc0 : 0 ≤ c0 ∧ c0 < 256) (hc1 : 0 ≤ c1 ∧ c1 < 256) (hg : Ety w) (ht : P10 w) :
    Calls Tryd.prog 6 #[.string f, .int .i64 n, .agg #[.int .u8 c0, .int .u8 c1]] w fun e w' => e = .returned (.bool true) ∧ Below w.heap.size w w' := by
  obtain ⟨W, hW⟩ : ∃ W, W = w.alloc (.cells #[.int .u8 c0, .int .u8 c1] 37) := ⟨_, rfl⟩
  have B0 : Below w.heap.size w W := by rw [hW]; exact (Below.refl _ _).alloc (Nat.le_refl _) _
  have b0 : Blk W w.heap.size [.int .u8 c0, .int .u8 c1] 37 := by rw [hW]; exact Blk.new0 w [.int .u8 c0, .int .u8 c1] 37
  have HA := Go.Lib.hid (cawake_any W (hg.keep B0))
  have HG := Go.Lib.hid hg
  have HT := Go.Lib.hid ht
  have HW := Go.Lib.hid hW
  have HB0 := Go.Lib.hid B0
  have Hb0 := Go.Lib.hid b0
  obtain ⟨p0, p1⟩ := hc0
  obtain ⟨p2, p3⟩ := hc1
  have d0 : 0 ≤ c0 % 3 := by omega
  have d1 : c0 % 3 < 3 := by omega
  clear hW B0 b0 hg ht
  go_enter Tryd.func6, Tryd.ntmps6
  go_wp2_with fail
  rw [← HW.out]
  refine HA.out.mono ?_
  rintro e w1 ⟨rfl, hb1⟩
  have HB1 := Go.Lib.hid (HB0.out.trans (hb1.mono HB0.out.size))
  have Hb1 := Go.Lib.hid (Hb0.out.keep hb1)
  have g0 := Hb1.out.cell 0
  have g1 := Hb1.out.cell 1
  simp only [List.getElem?_cons_zero, List.getElem?_cons_succ] at g0 g1
  have gl := Hb1.out.lt
  clear hb1
  have z1 := iS_size h1 h2
  have HD := Go.Lib.hid (fun w => number_any n w h1 h2)
  have HI := Go.Lib.hid (fun w h => itoa_any n w h1 h2 h)
  generalize iS n = D at *
  go_wp2_with fail
  generalize hk : 1 + c0 % 3 = k
  have k1 : 1 ≤ k := by omega
  have k3 : k ≤ 3 := by omega
  obtain ⟨b, hb⟩ : ∃ b, b = w1.heap.size := ⟨_, rfl⟩
  obtain ⟨W2, hW2⟩ : ∃ W2, W2 = (w1.alloc (.cells #[.string f, .int .i64 n, .iface 32 (.int .i64 k)] 40)).alloc (.cells #[.string f, .int .i64 n, .nilIface] 40) := ⟨_, rfl⟩
  have A2 : Below w1.heap.size w1 W2 := by rw [hW2]; exact ((Below.refl _ _).alloc (Nat.le_refl _) _).alloc (by simp) _
  have bb : Blk W2 b [.string f, .int .i64 n, .iface 32 (.int .i64 k)] 40 := by rw [hW2, hb]; exact (Blk.new0 w1 [.string f, .int .i64 n, .iface 32 (.int .i64 k)] 40).alloc _
  have bc : Blk W2 (b + 1) [.string f, .int .i64 n, .nilIface] 40 := by rw [hW2, hb]; exact Blk.new1 w1 _ [.string f, .int .i64 n, .nilIface] 40
  rw [← hW2, ← hb]
  have HB2 := Go.Lib.hid (HB1.out.trans (A2.mono HB1.out.size))
  have Hbb := Go.Lib.hid bb
  have Hbc := Go.Lib.hid bc
  clear hW2 A2 bb bc hb hk g0 g1 gl d0 d1
  refine (field_bad b f n _ W2 Hbb.out (HG.out.keep HB2.out)).mono ?_
  rintro e w3 ⟨rfl, hb3⟩
  have HB3 := Go.Lib.hid (HB2.out.trans (hb3.mono HB2.out.size))
  have Hb3 := Go.Lib.hid (Hbb.out.keep hb3)
  have Hc3 := Go.Lib.hid (Hbc.out.keep hb3)
  clear hb3
  go_wp2_with fail
  refine (wrap_any _ _ 1 c1 w3 p2 p3 (Ch.one Hb3.out) (.inr ⟨_, _, rfl⟩)).mono ?_
  rintro e w4 ⟨v', rfl, hC, hb4⟩
  have HB4 := Go.Lib.hid (HB3.out.trans (hb4.mono HB3.out.size))
  have Hb4 := Go.Lib.hid (Hb3.out.keep hb4)
  have Hc4 := Go.Lib.hid (Hc3.out.keep hb4)
  obtain ⟨T, x, rfl⟩ := hC.head
  have HC4 := Go.Lib.hid hC
  clear hC hb4
  generalize (c1 % 20).toNat + 1 = kk at *
  have s1 : ¬ (9223372036854775807 < f.size + 2) := by omega
  have s2 : ¬ (9223372036854775807 < f.size + 2 + D.size) := by omega
  have s3 : ¬ (9223372036854775807 < f.size + 2 + D.size + 2) := by omega
  have z2 := nmF_size k
  have s4 : ¬ (9223372036854775807 < f.size + 2 + D.size + 2 + (nmF k).size) := by omega
  go_wp2_with fail
  refine (HD.out _).mono ?_
  rintro e w5 ⟨rfl, hb5⟩
  have HB5 := Go.Lib.hid (HB4.out.trans (hb5.mono HB4.out.size))
  have Hb5 := Go.Lib.hid (Hb4.out.keep hb5)
  have Hc5 := Go.Lib.hid (Hc4.out.keep hb5)
  have HC5 := Go.Lib.hid (HC4.out.keep hb5)
  clear hb5
  have HE := Go.Lib.hid (bad_error_any b f D n k w5 (fun w6 hb => HI.out w6 (HT.out.keep (HB5.out.trans (hb.mono HB5.out.size)))) (by omega) ⟨by omega, k3⟩ (by omega) Hb5.out)
  rw [← ByteArray.append_assoc] at HE
  go_wp2_with fail
  refine HE.out.mono ?_
  rintro e w6 ⟨rfl, hb6⟩
  have HB6 := Go.Lib.hid (HB5.out.trans (hb6.mono HB5.out.size))
  have Hb6 := Go.Lib.hid (Hb5.out.keep hb6)
  have Hc6 := Go.Lib.hid (Hc5.out.keep hb6)
  have HC6 := Go.Lib.hid (HC5.out.keep hb6)
  clear hb6 HE
  go_wp2_with fail
  refine (errno_error k _ ⟨by omega, k3⟩).mono ?_
  rintro e w7 ⟨rfl, rfl⟩
  generalize nmF k = N at *
  have HE := Go.Lib.hid (bad_error_bare (b + 1) f D n w6 (fun w7 hb => HI.out w7 (HT.out.keep (HB6.out.trans (hb.mono HB6.out.size)))) (by omega) (by omega) Hc6.out)
  go_wp2_with fail
  refine HE.out.mono ?_
  rintro e w7 ⟨rfl, hb7⟩
  have HB7 := Go.Lib.hid (HB6.out.trans (hb7.mono HB6.out.size))
  have Hb7 := Go.Lib.hid (Hb6.out.keep hb7)
  have Hc7 := Go.Lib.hid (Hc6.out.keep hb7)
  have HC7 := Go.Lib.hid (HC6.out.keep hb7)
  clear hb7 HE
  go_wp2_with fail
  refine (bad_unwrap (b + 1) _ _ n w7 Hc7.out).mono ?_
  rintro e w8 ⟨rfl, rfl⟩
  go_wp2_with fail
  refine (bad_unwrap b _ _ n w7 Hb7.out).mono ?_
  rintro e w8 ⟨rfl, rfl⟩
  have q1 := eql_errno
  go_wp2_with fail
  refine (code_errno k kk _ w7 HC7.out (HG.out.keep HB7.out)).mono ?_
  rintro e w8 ⟨rfl, hb8⟩
  have HB8 := Go.Lib.hid (HB7.out.trans (hb8.mono HB7.out.size))
  have Hc8 := Go.Lib.hid (Hc7.out.keep hb8)
  clear hb8
  have HN : Hid (Ch w8 (0 + 1) (.iface 38 (.pointer (some ⟨b + 1, 0, none⟩))) .nilIface) := Go.Lib.hid ⟨_, f, n, _, rfl, Hc8.out, rfl⟩
  go_wp2_with fail
  refine (code_none 0 _ w8 HN.out (HG.out.keep HB8.out)).mono ?_
  rintro e w9 ⟨rfl, hb9⟩
  have HB9 := Go.Lib.hid (HB8.out.trans (hb9.mono HB8.out.size))
  clear hb9
  go_wp2_with fail
  go_ret
  exact ⟨rfl, HB9.out⟩
end Go.Proofs.YtddihnnodegkmaaDoor
