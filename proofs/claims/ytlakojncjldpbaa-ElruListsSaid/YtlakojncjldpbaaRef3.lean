/- The references' Same, Cap, Kind, Size. -/
import Derived.Test.YtlakojncjldpbaaRef2
namespace Go.Proofs.Ytlakojncjldpbaa
open Go.RowKit Hop
set_option linter.unusedVariables false
set_option linter.unusedSimpArgs false
set_option maxRecDepth 100000
theorem KL.get {w : World} {a : Option Addr} {n cap : Nat} {L : List Int} (h : KL w (.slice a n cap) L) {j : Nat} (hj : j < L.length) :
    ∃ g x, a = some ⟨g, 0, none⟩ ∧ L.length ≤ cap ∧ cap ≤ maxLen ∧ w.cell? ⟨g, j, none⟩ = some (.int .u64 x) ∧ L.take (j + 1) = L.take j ++ [x] ∧ L[j]? = some x := by
  obtain ⟨g, h1, h2, h3, h4⟩ := h.cell hj
  exact ⟨g, L[j], h1, h2, h3, h4, by rw [List.take_add_one, List.getElem?_eq_getElem hj]; rfl, List.getElem?_eq_getElem hj⟩
set_option maxHeartbeats 800000 in
theorem same_any (va vb : Value) (A B : List Int) (w : World) (ha : KL w va A) (hb : KL w vb B) :
    Calls Try.prog 24 #[va, vb] w fun e w' => e = .returned (.bool (decide (A = B))) ∧ Below w.heap.size w w' := by
  obtain ⟨a, capa, rfl⟩ := ha.form
  obtain ⟨b, capb, rfl⟩ := hb.form
  have hla := ha.le
  have hlb := hb.le
  have HA := Go.Lib.hid ha
  have HB := Go.Lib.hid hb
  clear ha hb
  unfold maxLen at hla hlb
  by_cases hlen : A.length = B.length
  · rw [← hlen] at HB ⊢
    have HL := Go.Lib.hid hlen
    clear hlb hlen
    go_enter Try.func24, Try.ntmps24
    go_wp2_with fail
    go_loopw [5] (fun i wr => ∃ j : Nat, j ≤ A.length ∧ i = .int .i64 j ∧ A.take j = B.take j ∧ Below w.heap.size w wr) (fun i _ => A.length - (intOf i).toNat)
    case atStart => exact ⟨0, by omega, rfl, by simp, Below.refl _ _⟩
    case round =>
      obtain ⟨j, hj, rfl, hab, hbr⟩ := hrel
      by_cases hlt : j < A.length
      · have hlt2 : j < B.length := by rw [← HL.out]; exact hlt
        obtain ⟨g, x, rfl, hc1, hc2, hcell, tka, hxa⟩ := (HA.out.keep hbr).get hlt
        obtain ⟨g2, y, rfl, hc3, hc4, hcell2, tkb, hxb⟩ := (HB.out.keep hbr).get hlt2
        have hl := ((HA.out.keep hbr).lt (b := g) rfl).1
        have hl2 := ((HB.out.keep hbr).lt (b := g2) rfl).1
        have HBR := Go.Lib.hid hbr
        have LB := Go.Lib.hid hlt2
        by_cases hk : x = y
        · have hn : A.take (j + 1) = B.take (j + 1) := by rw [tka, tkb, hab, hk]
          have HN := Go.Lib.hid hn
          subst hk
          clear hn hab hbr tka tkb hlt2 hc3 hxa hxb
          go_wp2_with fail
          go_quiet (fail)
          go_wp2_with fail
          go_roundw
          case rel => exact ⟨j + 1, by omega, by go_num, HN.out, below_drewN HBR.out nq⟩
          case measure => simp [intOf]; omega
        · have hm : decide (A = B) = false := decide_eq_false (fun e => hk (by subst e; rw [hxa] at hxb; exact Option.some.inj hxb))
          have HM := Go.Lib.hid hm
          have hkb : (x == y) = false := by rw [beq_eq_false_iff_ne]; exact hk
          clear hab hbr tka tkb hlt2 hm hc3 hxa hxb
          go_wp2_with fail
          go_quiet (fail)
          go_wp2_with fail
          go_ret
          exact ⟨by rw [HM.out]; rfl, below_drewN HBR.out nq⟩
      · have e : j = A.length := by omega
        subst e
        have hm : decide (A = B) = true := by
          refine decide_eq_true ?_
          rw [List.take_length, HL.out, List.take_length] at hab
          exact hab
        have HM := Go.Lib.hid hm
        clear hab hm
        go_wp2_with fail
        go_ret
        exact ⟨by rw [HM.out]; rfl, hbr⟩
  · have hm : decide (A = B) = false := decide_eq_false (fun e => hlen (by rw [e]))
    have HM := Go.Lib.hid hm
    have hb1 : ((A.length : Int) == (B.length : Int)) = false := by rw [beq_eq_false_iff_ne]; omega
    have hb2 : (A.length == B.length) = false := by rw [beq_eq_false_iff_ne]; omega
    clear hm
    go_enter Try.func24, Try.ntmps24
    go_wp2_with fail
    go_ret
    exact ⟨by rw [HM.out]; rfl, Below.refl _ _⟩
def capF (c : Int) : Int := if c < 1 then 1 else if 1048576 < c then 1048576 else c
set_option maxHeartbeats 800000 in
theorem cap_any (c : Int) (w : World) :
    Calls Try.prog 40 #[.int .i64 c] w fun e w' => e = .returned (.int .i64 (capF c)) ∧ w = w' := by
  by_cases h1 : c < 1
  · have e : capF c = 1 := by unfold capF; rw [if_pos h1]
    rw [e]
    clear e
    go_enter Try.func40, Try.ntmps40
    go_wp2_with fail
    go_ret
    exact ⟨rfl, rfl⟩
  · by_cases h2 : 1048576 < c
    · have e : capF c = 1048576 := by unfold capF; rw [if_neg h1, if_pos h2]
      rw [e]
      clear e
      go_enter Try.func40, Try.ntmps40
      go_wp2_with fail
      go_ret
      exact ⟨rfl, rfl⟩
    · have e : capF c = c := by unfold capF; rw [if_neg h1, if_neg h2]
      rw [e]
      clear e
      go_enter Try.func40, Try.ntmps40
      go_wp2_with fail
      go_ret
      exact ⟨rfl, rfl⟩
/-- What an act is: its kind, by its number and by whether the key is there. -/
def kindF (k : Int) (there : Bool) : Int := if k % 10 = 0 then 3 else if k % 10 = 1 then 4 else if k % 10 = 2 then 1 else if k % 10 = 3 then 2 else if there then 1 else 2
set_option maxHeartbeats 1600000 in
theorem kind_any (k key n : Int) (there : Bool) (w : World) (hk : 0 ≤ k ∧ k < 256) :
    Calls Try.prog 94 #[.agg #[.int .u8 k, .int .u64 key, .int .u16 n], .bool there] w fun e w' => e = .returned (.int .i64 (kindF k there)) ∧ Below w.heap.size w w' := by
  obtain ⟨k0, k1⟩ := hk
  have hB : Below w.heap.size w (w.alloc (.cells #[.int .u8 k, .int .u64 key, .int .u16 n] 34)) := (Below.refl w.heap.size w).alloc (Nat.le_refl _) _
  have HB := Go.Lib.hid hB
  clear hB
  have key : ∀ r, r = kindF k there → Hid (kindF k there = r) := fun r e => Go.Lib.hid e.symm
  by_cases h0 : k % 10 = 0
  · have HF := key 3 (by unfold kindF; rw [if_pos h0])
    clear key
    go_enter Try.func94, Try.ntmps94
    go_wp2_with fail
    go_ret
    exact ⟨by rw [HF.out]; rfl, HB.out⟩
  · by_cases h1 : k % 10 = 1
    · have HF := key 4 (by unfold kindF; rw [if_neg h0, if_pos h1])
      clear key h0
      go_enter Try.func94, Try.ntmps94
      go_wp2_with fail
      go_ret
      exact ⟨by rw [HF.out]; rfl, HB.out⟩
    · by_cases h2 : k % 10 = 2
      · have HF := key 1 (by unfold kindF; rw [if_neg h0, if_neg h1, if_pos h2])
        clear key h0 h1
        go_enter Try.func94, Try.ntmps94
        go_wp2_with fail
        go_ret
        exact ⟨by rw [HF.out]; rfl, HB.out⟩
      · by_cases h3 : k % 10 = 3
        · have HF := key 2 (by unfold kindF; rw [if_neg h0, if_neg h1, if_neg h2, if_pos h3])
          clear key h0 h1 h2
          go_enter Try.func94, Try.ntmps94
          go_wp2_with fail
          go_ret
          exact ⟨by rw [HF.out]; rfl, HB.out⟩
        · cases there with
          | true =>
            have HF := key 1 (by unfold kindF; rw [if_neg h0, if_neg h1, if_neg h2, if_neg h3]; rfl)
            clear key
            go_enter Try.func94, Try.ntmps94
            go_wp2_with fail
            go_ret
            exact ⟨by rw [HF.out]; rfl, HB.out⟩
          | false =>
            have HF := key 2 (by unfold kindF; rw [if_neg h0, if_neg h1, if_neg h2, if_neg h3]; rfl)
            clear key
            go_enter Try.func94, Try.ntmps94
            go_wp2_with fail
            go_ret
            exact ⟨by rw [HF.out]; rfl, HB.out⟩
def sizeF (n : Int) : Int := 1 + n % 14
set_option maxHeartbeats 800000 in
theorem sizeof_any (k key n : Int) (w : World) (hn : 0 ≤ n ∧ n < 65536) :
    Calls Try.prog 100 #[.agg #[.int .u8 k, .int .u64 key, .int .u16 n]] w fun e w' => e = .returned (.int .i64 (sizeF n)) ∧ Below w.heap.size w w' := by
  obtain ⟨k0, k1⟩ := hn
  have hB : Below w.heap.size w (w.alloc (.cells #[.int .u8 k, .int .u64 key, .int .u16 n] 34)) := (Below.refl w.heap.size w).alloc (Nat.le_refl _) _
  have HB := Go.Lib.hid hB
  clear hB
  go_enter Try.func100, Try.ntmps100
  go_wp2_with fail
  go_ret
  exact ⟨by unfold sizeF; rfl, HB.out⟩
end Go.Proofs.Ytlakojncjldpbaa
