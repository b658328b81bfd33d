/- The texts of errors. -/
import Derived.Test.YtddihnnodegkmaaDoorCf2
import Derived.Test.YtddihnnodegkmaaDoorShI
import Derived.Deep.RegionHeld3
namespace Go.Proofs.YtddihnnodegkmaaDoor
open Go.RowKit Go.Extern.Stop Go.Stop Go.Extern Hop
set_option linter.unusedVariables false
set_option linter.unusedSimpArgs false
set_option maxRecDepth 100000
def nmF (c : Int) : ByteArray := if c = 0 then ⟨#[111, 107]⟩ else if c = 1 then ⟨#[99, 111, 110, 102, 105, 103]⟩ else if c = 2 then ⟨#[111, 112]⟩ else if c = 3 then ⟨#[102, 111, 114, 109]⟩ else ⟨#[117, 110, 107, 110, 111, 119, 110]⟩
set_option maxHeartbeats 800000 in
theorem errno_error (c : Int) (w : World) (hc : 0 ≤ c ∧ c ≤ 3) : Calls Tryd.prog 21 #[.int .i64 c] w fun e w' => e = .returned (.string (nmF c)) ∧ w = w' := by
  have h : c = 0 ∨ c = 1 ∨ c = 2 ∨ c = 3 := by omega
  clear hc
  rcases h with rfl | rfl | rfl | rfl
  · go_enter Tryd.func21, Tryd.ntmps21
    go_wp2_with fail
    go_ret
    exact ⟨rfl, rfl⟩
  · go_enter Tryd.func21, Tryd.ntmps21
    go_wp2_with fail
    go_ret
    exact ⟨rfl, rfl⟩
  · go_enter Tryd.func21, Tryd.ntmps21
    go_wp2_with fail
    go_ret
    exact ⟨rfl, rfl⟩
  · go_enter Tryd.func21, Tryd.ntmps21
    go_wp2_with fail
    go_ret
    exact ⟨rfl, rfl⟩
theorem str_add {P : Program} {t : TypeId} (w : World) (a b : ByteArray) (h : a.size + b.size ≤ 9223372036854775807) : (binOp .add t (.string a) (.string b)).run P w = .ok (.string (a ++ b)) w := by
  rw [binOp_string_add]
  exact run_string_add_sum w a b h
theorem nmF_size (c : Int) : (nmF c).size ≤ 7 := by unfold nmF; (repeat' split) <;> decide
set_option maxHeartbeats 1600000 in
/-- The text of a Bad that has an error, where the library tells its number as D. -/
theorem bad_error_any (b : Nat) (f D : ByteArray) (n : Int) (c : Int) (w : World) (hI : ∀ w1, Below w.heap.size w w1 → Calls Tryd.prog 33 #[.int .i64 n] w1 fun e w' => e = .returned (.string D) ∧ Below w1.heap.size w1 w') (hD : D.size ≤ 40) (hc : 0 ≤ c ∧ c ≤ 3) (hf : f.size ≤ 1000) (h : Blk w b [.string f, .int .i64 n, .iface 32 (.int .i64 c)] 40) :
    Calls Tryd.prog 20 #[.pointer (some ⟨b, 0, none⟩)] w fun e w' => e = .returned (.string (f ++ ⟨#[58, 32]⟩ ++ D ++ (⟨#[58, 32]⟩ ++ nmF c))) ∧ Below w.heap.size w w' := by
  have S : ∀ W', Below w.heap.size w W' → (W'.cell? ⟨b, 0, none⟩ = some (.string f) ∧ W'.cell? ⟨b, 1, none⟩ = some (.int .i64 n)) := fun W' hb => ⟨(h.keep hb).cell 0, (h.keep hb).cell 1⟩
  have HS := Go.Lib.hid (fun W' (hb : Below w.drew.heap.size w.drew W') => S W' ((Below.refl _ _).drew.trans hb))
  have HS0 := Go.Lib.hid (S _ (Below.refl _ _).drew)
  have HH := Go.Lib.hid h
  have hl := h.lt
  have HI := Go.Lib.hid (hI w.drew (Below.refl _ _).drew)
  have HE := Go.Lib.hid (fun w => errno_error c w hc)
  have m1 := mErrorE
  have z1 := nmF_size c
  generalize nmF c = N at *
  have k1 : ¬ (9223372036854775807 < f.size + 2) := by omega
  have k2 : ¬ (9223372036854775807 < f.size + 2 + D.size) := by omega
  have k3 : ¬ (9223372036854775807 < 2 + N.size) := by omega
  have k4 : ¬ (9223372036854775807 < f.size + 2 + D.size + (2 + N.size)) := by omega
  clear h hc hI S
  go_enter Tryd.func20, Tryd.ntmps20
  go_wp2_with fail
  go_region_held3 (fun W' => W'.cell? ⟨b, 0, none⟩ = some (.string f) ∧ W'.cell? ⟨b, 1, none⟩ = some (.int .i64 n))
    (first | with_reducible exact HS.out _ hb1 | exact HS0.out)
    (first | (go_at_call 33; refine HI.out.mono ?_; rintro e w1 ⟨rfl, hb1⟩))
  have HB := Go.Lib.hid ((Below.refl w.heap.size w).drew.trans hb1)
  have c2 := (HH.out.keep HB.out).cell 2
  simp only [List.getElem?_cons_zero, List.getElem?_cons_succ] at c2
  have hl' := (HH.out.keep HB.out).lt
  clear hb1
  go_wp2_with fail
  refine (HE.out _).mono ?_
  rintro e w2 ⟨rfl, rfl⟩
  go_wp2_with fail
  go_ret
  exact ⟨rfl, HB.out⟩
set_option maxHeartbeats 1600000 in
/-- The text of a Bad that has none. -/
theorem bad_error_bare (b : Nat) (f D : ByteArray) (n : Int) (w : World) (hI : ∀ w1, Below w.heap.size w w1 → Calls Tryd.prog 33 #[.int .i64 n] w1 fun e w' => e = .returned (.string D) ∧ Below w1.heap.size w1 w') (hD : D.size ≤ 40) (hf : f.size ≤ 1000) (h : Blk w b [.string f, .int .i64 n, .nilIface] 40) :
    Calls Tryd.prog 20 #[.pointer (some ⟨b, 0, none⟩)] w fun e w' => e = .returned (.string (f ++ ⟨#[58, 32]⟩ ++ D)) ∧ Below w.heap.size w w' := by
  have S : ∀ W', Below w.heap.size w W' → (W'.cell? ⟨b, 0, none⟩ = some (.string f) ∧ W'.cell? ⟨b, 1, none⟩ = some (.int .i64 n)) := fun W' hb => ⟨(h.keep hb).cell 0, (h.keep hb).cell 1⟩
  have HS := Go.Lib.hid (fun W' (hb : Below w.drew.heap.size w.drew W') => S W' ((Below.refl _ _).drew.trans hb))
  have HS0 := Go.Lib.hid (S _ (Below.refl _ _).drew)
  have HH := Go.Lib.hid h
  have hl := h.lt
  have HI := Go.Lib.hid (hI w.drew (Below.refl _ _).drew)
  have k1 : ¬ (9223372036854775807 < f.size + 2) := by omega
  have k2 : ¬ (9223372036854775807 < f.size + 2 + D.size) := by omega
  clear h hI S
  go_enter Tryd.func20, Tryd.ntmps20
  go_wp2_with fail
  go_region_held3 (fun W' => W'.cell? ⟨b, 0, none⟩ = some (.string f) ∧ W'.cell? ⟨b, 1, none⟩ = some (.int .i64 n))
    (first | with_reducible exact HS.out _ hb1 | exact HS0.out)
    (first | (go_at_call 33; refine HI.out.mono ?_; rintro e w1 ⟨rfl, hb1⟩))
  have HB := Go.Lib.hid ((Below.refl w.heap.size w).drew.trans hb1)
  have c2 := (HH.out.keep HB.out).cell 2
  simp only [List.getElem?_cons_zero, List.getElem?_cons_succ] at c2
  have hl' := (HH.out.keep HB.out).lt
  clear hb1
  go_wp2_with fail
  go_ret
  exact ⟨rfl, HB.out⟩
set_option maxHeartbeats 400000 in
theorem bad_error_nil (w : World) : Calls Tryd.prog 20 #[.pointer none] w fun e w' => e = .returned (.string ⟨#[]⟩) ∧ w = w' := by
  go_enter Tryd.func20, Tryd.ntmps20
  go_wp2_with fail
  go_ret
  exact ⟨rfl, rfl⟩
set_option maxHeartbeats 400000 in
theorem bad_unwrap_nil (w : World) : Calls Tryd.prog 22 #[.pointer none] w fun e w' => e = .returned .nilIface ∧ w = w' := by
  go_enter Tryd.func22, Tryd.ntmps22
  go_wp2_with fail
  go_ret
  exact ⟨rfl, rfl⟩
theorem itoa_small (n : Nat) (hn : n < 100) (w : World) : Calls Tryd.prog 33 #[.int .i64 n] w fun e w' => e = .returned (.string ⟨(Lib.decDigits n).toArray⟩) ∧ Below w.heap.size w w' :=
  (Tryd.strconv_Itoa_small n hn w).mono (fun e w' ⟨h1, h2⟩ => ⟨h1, by rw [h2]; exact Below.refl _ _⟩)
end Go.Proofs.YtddihnnodegkmaaDoor
