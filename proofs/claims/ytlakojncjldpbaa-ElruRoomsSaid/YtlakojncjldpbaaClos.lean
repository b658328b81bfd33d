/- The closures of the lists: what each does to a node. -/
import Derived.Test.YtlakojncjldpbaaLWith
namespace Go.Proofs.Ytlakojncjldpbaa
open Go.RowKit Hop
set_option linter.unusedVariables false
set_option linter.unusedSimpArgs false
set_option maxRecDepth 100000
theorem node_frame {W w : World} {b : Nat} (h : Fr (· = b) W w) : Fr (· = b) W w := h
set_option maxHeartbeats 400000 in
theorem join1_turns (bb : Nat) (v : Int) (w : World) (hb : Blk w bb [.int .i32 v] 21) : Turns 232 #[P0 bb] (fun x => { x with next := v }) w := by
  intro W b x hB hlo hx
  have l0 := hb.lt
  have l1 := hx.lt
  have c0 := (hb.keep hB).cell 0
  have c5 := hx.cell 5
  have f5 := hx.frozen 5
  simp only [encN, List.getElem?_cons_zero, List.getElem?_cons_succ] at c0 c5
  simp only [List.append_toArray, List.cons_append, List.nil_append]
  have HB := Go.Lib.hid hB
  clear hB
  have hne : bb ≠ b := by omega
  go_enter Try.func232, Try.ntmps232
  go_wp2_with fail
  go_end0
  exact ⟨rfl, (Fr.refl (fun x => x = b) _).setEq rfl _, hx.set 5 _⟩
set_option maxHeartbeats 400000 in
theorem join2_turns (bb : Nat) (v : Int) (w : World) (hb : Blk w bb [.int .i32 v] 21) : Turns 233 #[P0 bb] (fun x => { x with prev := v }) w := by
  intro W b x hB hlo hx
  have l0 := hb.lt
  have l1 := hx.lt
  have c0 := (hb.keep hB).cell 0
  have c4 := hx.cell 4
  have f4 := hx.frozen 4
  simp only [encN, List.getElem?_cons_zero, List.getElem?_cons_succ] at c0 c4
  simp only [List.append_toArray, List.cons_append, List.nil_append]
  have HB := Go.Lib.hid hB
  clear hB
  have hne : bb ≠ b := by omega
  go_enter Try.func233, Try.ntmps233
  go_wp2_with fail
  go_end0
  exact ⟨rfl, (Fr.refl (fun x => x = b) _).setEq rfl _, hx.set 4 _⟩
set_option maxHeartbeats 400000 in
theorem remove1_turns (w : World) : Turns 207 #[] (fun x => { x with tag := 0, prev := 0, next := 0 }) w := by
  intro W b x hB hlo hx
  have l1 := hx.lt
  have c3 := hx.cell 3
  have f3 := hx.frozen 3
  have c4 := hx.cell 4
  have f4 := hx.frozen 4
  have c5 := hx.cell 5
  have f5 := hx.frozen 5
  simp only [encN, List.getElem?_cons_zero, List.getElem?_cons_succ] at c3 c4 c5
  simp only [List.append_toArray, List.cons_append, List.nil_append]
  have HB := Go.Lib.hid hB
  clear hB
  go_enter Try.func207, Try.ntmps207
  go_wp2_with fail
  go_end0
  exact ⟨rfl, (((Fr.refl (fun x => x = b) _).setEq rfl _).setEq rfl _).setEq rfl _, ((hx.set 3 _).set 4 _).set 5 _⟩
set_option maxHeartbeats 800000 in
theorem lay1_turns (bt bp bn : Nat) (t p n : Int) (w : World) (ht0 : 0 ≤ t) (ht1 : t ≤ 100) (htp : bt ≠ bp) (htn : bt ≠ bn) (hpn : bp ≠ bn)
    (ht : Blk w bt [.int .i64 t] 3) (hp : Blk w bp [.int .i32 p] 21) (hn : Blk w bn [.int .i32 n] 21) :
    Turns 238 #[P0 bt, P0 bp, P0 bn] (fun x => { x with tag := t + 1, prev := p, next := n }) w := by
  intro W b x hB hlo hx
  have l0 := ht.lt
  have l1 := hp.lt
  have l2 := hn.lt
  have l3 := hx.lt
  have c0 := (ht.keep hB).cell 0
  have c1 := (hp.keep hB).cell 0
  have c2 := (hn.keep hB).cell 0
  have c3 := hx.cell 3
  have f3 := hx.frozen 3
  have c4 := hx.cell 4
  have f4 := hx.frozen 4
  have c5 := hx.cell 5
  have f5 := hx.frozen 5
  simp only [encN, List.getElem?_cons_zero, List.getElem?_cons_succ] at c0 c1 c2 c3 c4 c5
  simp only [List.append_toArray, List.cons_append, List.nil_append]
  have HB := Go.Lib.hid hB
  clear hB
  have hne0 : bt ≠ b := by omega
  have hne1 : bp ≠ b := by omega
  have hne2 : bn ≠ b := by omega
  have b0 : b ≠ bt := by omega
  have b1 : b ≠ bp := by omega
  have b2 : b ≠ bn := by omega
  go_enter Try.func238, Try.ntmps238
  go_wp2_with fail
  go_region
  all_goals (go_wp2; go_end0)
  all_goals exact ⟨rfl, Fr.drew ((((Fr.refl (fun x => x = b) _).setEq rfl _).setEq rfl _).setEq rfl _), Blk.drew (((hx.set 3 _).set 4 _).set 5 _)⟩
end Go.Proofs.Ytlakojncjldpbaa
