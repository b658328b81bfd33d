/- The statement ConfigTells: the walk. -/
import Derived.Test.YtddihnnodegkmaaGreatDoorCf7
import Derived.Test.YtddihnnodegkmaaGreatDoorCf8
namespace Go.Proofs.YtddihnnodegkmaaGreatDoor
open Go.RowKit Go.Extern.Stop Go.Stop Go.Extern Hop
set_option linter.unusedVariables false
set_option linter.unusedSimpArgs false
set_option maxRecDepth 100000
/-- The library's table of powers. -/
abbrev P10 (w : World) : Prop := Lib.TabIs Tryz.prog w "internal/strconv.uint64pow10" .u64 Lib.pow10Tab
theorem P10.keep {w w' : World} (h : P10 w) (hb : Below w.heap.size w w') : P10 w' := by
  have hg : Tryz.prog.globalNamed "internal/strconv.uint64pow10" = some 1 := by kernel_rfl
  unfold P10 Lib.TabIs World.var? at h ⊢
  rw [hg] at h ⊢
  simp only [Option.bind_some] at h ⊢
  have hlt : 1 < w.heap.size := by
    rcases Nat.lt_or_ge 1 w.heap.size with h' | h'
    · exact h'
    · rw [Array.getElem?_eq_none h'] at h; cases h
  rw [hb.block 1 hlt]
  exact h
theorem below_grow (w : World) (q : Nat) (os : Array Obj) : Below w.heap.size w (Sort.grow (w.drewN q) os) :=
  ⟨rfl, rfl, rfl, by simp [Sort.grow], fun i hi => by
    show ((w.drewN q).heap ++ os)[i]? = _
    rw [Array.getElem?_append_left (by show i < w.heap.size; omega)]
    rfl⟩
theorem itoa_any (n : Int) (w : World) (h1 : -9223372036854775808 ≤ n) (h2 : n ≤ 9223372036854775807) (ht : P10 w) : Calls Tryz.prog 29 #[.int .i64 n] w fun e w' => e = .returned (.string (iS n)) ∧ Below w.heap.size w w' :=
  (Tryz.strconv_Itoa n h1 h2 w ht).mono (fun e w' ⟨h1, q, os, h2⟩ => ⟨h1, by rw [h2]; exact below_grow w q os⟩)
end Go.Proofs.YtddihnnodegkmaaGreatDoor
