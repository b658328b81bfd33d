/-
  No cell of these rows narrows 'for every input' (looked for: loops, veiled, ifaces, maps, wideKeys, modest, calm, conditions, laid).
  DERIVED. THE GIVEN ROWS OF THIS SEAT. 16 by the template 'for every input the law returns true; each argument reads behind the call as it read before'; 0 by the template 'total and deterministic' (their statements: YtlakojncjldpbaaTotals.lean).
  GIVEN WITH THE SEED: the statements are not yours to turn. If you find one false, say at which input.
  Laid BY PROGRAM, IN A SANDBOX (cutbox-rows.mjs): the forced cells as the released guide's own fill.sh prints them over the translation 77cd2a369695e34b… (all of the seat's roots in one cut). By AI agents, Wed Nov 11 2026. No macro, syntax, notation, axiom, sorry.
-/
import Derived.Test.YtlakojncjldpbaaChecked
import GoSem.Claim
import GoSem.ClaimJoined
import GoSem.ClaimMapViews
import Derived.JoinedTies
import Derived.KernelRfl
namespace Go.Proofs.Ytlakojncjldpbaa
/- THE CELL 'sum', in the pinned program and in every row, IS THE sha256 OF THE DUMP (.gsa) THAT YtlakojncjldpbaaProg.lean LOADS. Nothing in Lean hashes anything: it is a label: what it is worth is what the hold of that sum in a sandbox is worth. -/
noncomputable def Try.pinned : Pinned := { name := "ytlakojncjldpbaa", sum := "77cd2a369695e34b8d7662c61451bf605261f1285bae3bd27e62091afae52852", checked := Try.checked }
namespace Rows
def none {H : Type} : Left H := { results := [], args := [] }

/-- 'hopperlaw14.ElruSteps': WHATEVER THE INPUT: true; the input reads as it did. -/
def elruStepsSpec : ChangeSpec := { name := "elruSteps", fn := fun _ => fun
  | [d1, d2] => { results := [.lit (.bool true)], args := [d1, d2] }
  | _ => none }
def elruStepsRow : OpenClaim := { program := "ytlakojncjldpbaa", sum := "77cd2a369695e34b8d7662c61451bf605261f1285bae3bd27e62091afae52852", func := "hopper/hopperlaw14.ElruSteps", spec := "elruSteps", unfollowed := true, recurses := true, apart := false }
def ElruStepsSaid : Prop := elruStepsRow.holds Try.pinned (OpenSpec.ofChange elruStepsSpec)

/-- ITS FALSE NEIGHBOUR: 'it returns false'. Refute it at one input. -/
def elruStepsWrong : ChangeSpec := { name := "elruSteps", fn := fun _ => fun
  | [d1, d2] => { results := [.lit (.bool false)], args := [d1, d2] }
  | _ => none }
def ElruStepsWrongFalsely : Prop := elruStepsRow.holds Try.pinned (OpenSpec.ofChange elruStepsWrong)

/-- 'hopperlaw14.ElruRooms': WHATEVER THE INPUT: true; the input reads as it did. -/
def elruRoomsSpec : ChangeSpec := { name := "elruRooms", fn := fun _ => fun
  | [d1, d2] => { results := [.lit (.bool true)], args := [d1, d2] }
  | _ => none }
def elruRoomsRow : OpenClaim := { program := "ytlakojncjldpbaa", sum := "77cd2a369695e34b8d7662c61451bf605261f1285bae3bd27e62091afae52852", func := "hopper/hopperlaw14.ElruRooms", spec := "elruRooms", unfollowed := true, recurses := true, apart := false }
def ElruRoomsSaid : Prop := elruRoomsRow.holds Try.pinned (OpenSpec.ofChange elruRoomsSpec)

/-- ITS FALSE NEIGHBOUR: 'it returns false'. Refute it at one input. -/
def elruRoomsWrong : ChangeSpec := { name := "elruRooms", fn := fun _ => fun
  | [d1, d2] => { results := [.lit (.bool false)], args := [d1, d2] }
  | _ => none }
def ElruRoomsWrongFalsely : Prop := elruRoomsRow.holds Try.pinned (OpenSpec.ofChange elruRoomsWrong)

/-- 'hopperlaw14.ElruLooks': WHATEVER THE INPUT: true; the input reads as it did. -/
def elruLooksSpec : ChangeSpec := { name := "elruLooks", fn := fun _ => fun
  | [d1, d2, d3] => { results := [.lit (.bool true)], args := [d1, d2, d3] }
  | _ => none }
def elruLooksRow : OpenClaim := { program := "ytlakojncjldpbaa", sum := "77cd2a369695e34b8d7662c61451bf605261f1285bae3bd27e62091afae52852", func := "hopper/hopperlaw14.ElruLooks", spec := "elruLooks", unfollowed := true, recurses := true, apart := false }
def ElruLooksSaid : Prop := elruLooksRow.holds Try.pinned (OpenSpec.ofChange elruLooksSpec)

/-- ITS FALSE NEIGHBOUR: 'it returns false'. Refute it at one input. -/
def elruLooksWrong : ChangeSpec := { name := "elruLooks", fn := fun _ => fun
  | [d1, d2, d3] => { results := [.lit (.bool false)], args := [d1, d2, d3] }
  | _ => none }
def ElruLooksWrongFalsely : Prop := elruLooksRow.holds Try.pinned (OpenSpec.ofChange elruLooksWrong)

/-- 'hopperlaw14.ElruNobody': WHATEVER THE INPUT: true; the input reads as it did. -/
def elruNobodySpec : ChangeSpec := { name := "elruNobody", fn := fun _ => fun
  | [d1, d2] => { results := [.lit (.bool true)], args := [d1, d2] }
  | _ => none }
def elruNobodyRow : OpenClaim := { program := "ytlakojncjldpbaa", sum := "77cd2a369695e34b8d7662c61451bf605261f1285bae3bd27e62091afae52852", func := "hopper/hopperlaw14.ElruNobody", spec := "elruNobody", unfollowed := true, recurses := true, apart := false }
def ElruNobodySaid : Prop := elruNobodyRow.holds Try.pinned (OpenSpec.ofChange elruNobodySpec)

/-- ITS FALSE NEIGHBOUR: 'it returns false'. Refute it at one input. -/
def elruNobodyWrong : ChangeSpec := { name := "elruNobody", fn := fun _ => fun
  | [d1, d2] => { results := [.lit (.bool false)], args := [d1, d2] }
  | _ => none }
def ElruNobodyWrongFalsely : Prop := elruNobodyRow.holds Try.pinned (OpenSpec.ofChange elruNobodyWrong)

/-- 'hopperlaw15.EtwoqSteps': WHATEVER THE INPUT: true; the input reads as it did. -/
def etwoqStepsSpec : ChangeSpec := { name := "etwoqSteps", fn := fun _ => fun
  | [d1, d2] => { results := [.lit (.bool true)], args := [d1, d2] }
  | _ => none }
def etwoqStepsRow : OpenClaim := { program := "ytlakojncjldpbaa", sum := "77cd2a369695e34b8d7662c61451bf605261f1285bae3bd27e62091afae52852", func := "hopper/hopperlaw15.EtwoqSteps", spec := "etwoqSteps", unfollowed := true, recurses := true, apart := false }
def EtwoqStepsSaid : Prop := etwoqStepsRow.holds Try.pinned (OpenSpec.ofChange etwoqStepsSpec)

/-- ITS FALSE NEIGHBOUR: 'it returns false'. Refute it at one input. -/
def etwoqStepsWrong : ChangeSpec := { name := "etwoqSteps", fn := fun _ => fun
  | [d1, d2] => { results := [.lit (.bool false)], args := [d1, d2] }
  | _ => none }
def EtwoqStepsWrongFalsely : Prop := etwoqStepsRow.holds Try.pinned (OpenSpec.ofChange etwoqStepsWrong)

/-- 'hopperlaw15.EtwoqLooks': WHATEVER THE INPUT: true; the input reads as it did. -/
def etwoqLooksSpec : ChangeSpec := { name := "etwoqLooks", fn := fun _ => fun
  | [d1, d2, d3] => { results := [.lit (.bool true)], args := [d1, d2, d3] }
  | _ => none }
def etwoqLooksRow : OpenClaim := { program := "ytlakojncjldpbaa", sum := "77cd2a369695e34b8d7662c61451bf605261f1285bae3bd27e62091afae52852", func := "hopper/hopperlaw15.EtwoqLooks", spec := "etwoqLooks", unfollowed := true, recurses := true, apart := false }
def EtwoqLooksSaid : Prop := etwoqLooksRow.holds Try.pinned (OpenSpec.ofChange etwoqLooksSpec)

/-- ITS FALSE NEIGHBOUR: 'it returns false'. Refute it at one input. -/
def etwoqLooksWrong : ChangeSpec := { name := "etwoqLooks", fn := fun _ => fun
  | [d1, d2, d3] => { results := [.lit (.bool false)], args := [d1, d2, d3] }
  | _ => none }
def EtwoqLooksWrongFalsely : Prop := etwoqLooksRow.holds Try.pinned (OpenSpec.ofChange etwoqLooksWrong)

/-- 'hopperlaw15.EtwoqRooms': WHATEVER THE INPUT: true; the input reads as it did. -/
def etwoqRoomsSpec : ChangeSpec := { name := "etwoqRooms", fn := fun _ => fun
  | [d1, d2] => { results := [.lit (.bool true)], args := [d1, d2] }
  | _ => none }
def etwoqRoomsRow : OpenClaim := { program := "ytlakojncjldpbaa", sum := "77cd2a369695e34b8d7662c61451bf605261f1285bae3bd27e62091afae52852", func := "hopper/hopperlaw15.EtwoqRooms", spec := "etwoqRooms", unfollowed := true, recurses := true, apart := false }
def EtwoqRoomsSaid : Prop := etwoqRoomsRow.holds Try.pinned (OpenSpec.ofChange etwoqRoomsSpec)

/-- ITS FALSE NEIGHBOUR: 'it returns false'. Refute it at one input. -/
def etwoqRoomsWrong : ChangeSpec := { name := "etwoqRooms", fn := fun _ => fun
  | [d1, d2] => { results := [.lit (.bool false)], args := [d1, d2] }
  | _ => none }
def EtwoqRoomsWrongFalsely : Prop := etwoqRoomsRow.holds Try.pinned (OpenSpec.ofChange etwoqRoomsWrong)

/-- 'hopperlaw15.EtwoqNobody': WHATEVER THE INPUT: true; the input reads as it did. -/
def etwoqNobodySpec : ChangeSpec := { name := "etwoqNobody", fn := fun _ => fun
  | [d1, d2] => { results := [.lit (.bool true)], args := [d1, d2] }
  | _ => none }
def etwoqNobodyRow : OpenClaim := { program := "ytlakojncjldpbaa", sum := "77cd2a369695e34b8d7662c61451bf605261f1285bae3bd27e62091afae52852", func := "hopper/hopperlaw15.EtwoqNobody", spec := "etwoqNobody", unfollowed := true, recurses := true, apart := false }
def EtwoqNobodySaid : Prop := etwoqNobodyRow.holds Try.pinned (OpenSpec.ofChange etwoqNobodySpec)

/-- ITS FALSE NEIGHBOUR: 'it returns false'. Refute it at one input. -/
def etwoqNobodyWrong : ChangeSpec := { name := "etwoqNobody", fn := fun _ => fun
  | [d1, d2] => { results := [.lit (.bool false)], args := [d1, d2] }
  | _ => none }
def EtwoqNobodyWrongFalsely : Prop := etwoqNobodyRow.holds Try.pinned (OpenSpec.ofChange etwoqNobodyWrong)

/-- 'hopperlaw17.EarcSteps': WHATEVER THE INPUT: true; the input reads as it did. -/
def earcStepsSpec : ChangeSpec := { name := "earcSteps", fn := fun _ => fun
  | [d1, d2] => { results := [.lit (.bool true)], args := [d1, d2] }
  | _ => none }
def earcStepsRow : OpenClaim := { program := "ytlakojncjldpbaa", sum := "77cd2a369695e34b8d7662c61451bf605261f1285bae3bd27e62091afae52852", func := "hopper/hopperlaw17.EarcSteps", spec := "earcSteps", unfollowed := true, recurses := true, apart := false }
def EarcStepsSaid : Prop := earcStepsRow.holds Try.pinned (OpenSpec.ofChange earcStepsSpec)

/-- ITS FALSE NEIGHBOUR: 'it returns false'. Refute it at one input. -/
def earcStepsWrong : ChangeSpec := { name := "earcSteps", fn := fun _ => fun
  | [d1, d2] => { results := [.lit (.bool false)], args := [d1, d2] }
  | _ => none }
def EarcStepsWrongFalsely : Prop := earcStepsRow.holds Try.pinned (OpenSpec.ofChange earcStepsWrong)

/-- 'hopperlaw17.EarcLooks': WHATEVER THE INPUT: true; the input reads as it did. -/
def earcLooksSpec : ChangeSpec := { name := "earcLooks", fn := fun _ => fun
  | [d1, d2, d3] => { results := [.lit (.bool true)], args := [d1, d2, d3] }
  | _ => none }
def earcLooksRow : OpenClaim := { program := "ytlakojncjldpbaa", sum := "77cd2a369695e34b8d7662c61451bf605261f1285bae3bd27e62091afae52852", func := "hopper/hopperlaw17.EarcLooks", spec := "earcLooks", unfollowed := true, recurses := true, apart := false }
def EarcLooksSaid : Prop := earcLooksRow.holds Try.pinned (OpenSpec.ofChange earcLooksSpec)

/-- ITS FALSE NEIGHBOUR: 'it returns false'. Refute it at one input. -/
def earcLooksWrong : ChangeSpec := { name := "earcLooks", fn := fun _ => fun
  | [d1, d2, d3] => { results := [.lit (.bool false)], args := [d1, d2, d3] }
  | _ => none }
def EarcLooksWrongFalsely : Prop := earcLooksRow.holds Try.pinned (OpenSpec.ofChange earcLooksWrong)

/-- 'hopperlaw17.EarcRooms': WHATEVER THE INPUT: true; the input reads as it did. -/
def earcRoomsSpec : ChangeSpec := { name := "earcRooms", fn := fun _ => fun
  | [d1, d2] => { results := [.lit (.bool true)], args := [d1, d2] }
  | _ => none }
def earcRoomsRow : OpenClaim := { program := "ytlakojncjldpbaa", sum := "77cd2a369695e34b8d7662c61451bf605261f1285bae3bd27e62091afae52852", func := "hopper/hopperlaw17.EarcRooms", spec := "earcRooms", unfollowed := true, recurses := true, apart := false }
def EarcRoomsSaid : Prop := earcRoomsRow.holds Try.pinned (OpenSpec.ofChange earcRoomsSpec)

/-- ITS FALSE NEIGHBOUR: 'it returns false'. Refute it at one input. -/
def earcRoomsWrong : ChangeSpec := { name := "earcRooms", fn := fun _ => fun
  | [d1, d2] => { results := [.lit (.bool false)], args := [d1, d2] }
  | _ => none }
def EarcRoomsWrongFalsely : Prop := earcRoomsRow.holds Try.pinned (OpenSpec.ofChange earcRoomsWrong)

/-- 'hopperlaw17.EarcNobody': WHATEVER THE INPUT: true; the input reads as it did. -/
def earcNobodySpec : ChangeSpec := { name := "earcNobody", fn := fun _ => fun
  | [d1, d2] => { results := [.lit (.bool true)], args := [d1, d2] }
  | _ => none }
def earcNobodyRow : OpenClaim := { program := "ytlakojncjldpbaa", sum := "77cd2a369695e34b8d7662c61451bf605261f1285bae3bd27e62091afae52852", func := "hopper/hopperlaw17.EarcNobody", spec := "earcNobody", unfollowed := true, recurses := true, apart := false }
def EarcNobodySaid : Prop := earcNobodyRow.holds Try.pinned (OpenSpec.ofChange earcNobodySpec)

/-- ITS FALSE NEIGHBOUR: 'it returns false'. Refute it at one input. -/
def earcNobodyWrong : ChangeSpec := { name := "earcNobody", fn := fun _ => fun
  | [d1, d2] => { results := [.lit (.bool false)], args := [d1, d2] }
  | _ => none }
def EarcNobodyWrongFalsely : Prop := earcNobodyRow.holds Try.pinned (OpenSpec.ofChange earcNobodyWrong)

/-- 'hopperlaw18.ElirsRooms': WHATEVER THE INPUT: true; the input reads as it did. -/
def elirsRoomsSpec : ChangeSpec := { name := "elirsRooms", fn := fun _ => fun
  | [d1, d2] => { results := [.lit (.bool true)], args := [d1, d2] }
  | _ => none }
def elirsRoomsRow : OpenClaim := { program := "ytlakojncjldpbaa", sum := "77cd2a369695e34b8d7662c61451bf605261f1285bae3bd27e62091afae52852", func := "hopper/hopperlaw18.ElirsRooms", spec := "elirsRooms", unfollowed := true, recurses := true, apart := false }
def ElirsRoomsSaid : Prop := elirsRoomsRow.holds Try.pinned (OpenSpec.ofChange elirsRoomsSpec)

/-- ITS FALSE NEIGHBOUR: 'it returns false'. Refute it at one input. -/
def elirsRoomsWrong : ChangeSpec := { name := "elirsRooms", fn := fun _ => fun
  | [d1, d2] => { results := [.lit (.bool false)], args := [d1, d2] }
  | _ => none }
def ElirsRoomsWrongFalsely : Prop := elirsRoomsRow.holds Try.pinned (OpenSpec.ofChange elirsRoomsWrong)

/-- 'hopperlaw18.ElirsNobody': WHATEVER THE INPUT: true; the input reads as it did. -/
def elirsNobodySpec : ChangeSpec := { name := "elirsNobody", fn := fun _ => fun
  | [d1, d2] => { results := [.lit (.bool true)], args := [d1, d2] }
  | _ => none }
def elirsNobodyRow : OpenClaim := { program := "ytlakojncjldpbaa", sum := "77cd2a369695e34b8d7662c61451bf605261f1285bae3bd27e62091afae52852", func := "hopper/hopperlaw18.ElirsNobody", spec := "elirsNobody", unfollowed := true, recurses := true, apart := false }
def ElirsNobodySaid : Prop := elirsNobodyRow.holds Try.pinned (OpenSpec.ofChange elirsNobodySpec)

/-- ITS FALSE NEIGHBOUR: 'it returns false'. Refute it at one input. -/
def elirsNobodyWrong : ChangeSpec := { name := "elirsNobody", fn := fun _ => fun
  | [d1, d2] => { results := [.lit (.bool false)], args := [d1, d2] }
  | _ => none }
def ElirsNobodyWrongFalsely : Prop := elirsNobodyRow.holds Try.pinned (OpenSpec.ofChange elirsNobodyWrong)

/-- 'hopperlaw14.ElruLists': WHATEVER THE INPUT: true; the input reads as it did. -/
def elruListsSpec : ChangeSpec := { name := "elruLists", fn := fun _ => fun
  | [d1, d2] => { results := [.lit (.bool true)], args := [d1, d2] }
  | _ => none }
def elruListsRow : OpenClaim := { program := "ytlakojncjldpbaa", sum := "77cd2a369695e34b8d7662c61451bf605261f1285bae3bd27e62091afae52852", func := "hopper/hopperlaw14.ElruLists", spec := "elruLists", inPlace := ["slices.overlaps[uint64]"], unfollowed := true, recurses := true, apart := false }
def ElruListsSaid : Prop := elruListsRow.holds Try.pinned (OpenSpec.ofChange elruListsSpec)

/-- ITS FALSE NEIGHBOUR: 'it returns false'. Refute it at one input. -/
def elruListsWrong : ChangeSpec := { name := "elruLists", fn := fun _ => fun
  | [d1, d2] => { results := [.lit (.bool false)], args := [d1, d2] }
  | _ => none }
def ElruListsWrongFalsely : Prop := elruListsRow.holds Try.pinned (OpenSpec.ofChange elruListsWrong)

/-- 'hopperlaw15.EtwoqLists': WHATEVER THE INPUT: true; the input reads as it did. -/
def etwoqListsSpec : ChangeSpec := { name := "etwoqLists", fn := fun _ => fun
  | [d1, d2] => { results := [.lit (.bool true)], args := [d1, d2] }
  | _ => none }
def etwoqListsRow : OpenClaim := { program := "ytlakojncjldpbaa", sum := "77cd2a369695e34b8d7662c61451bf605261f1285bae3bd27e62091afae52852", func := "hopper/hopperlaw15.EtwoqLists", spec := "etwoqLists", inPlace := ["slices.overlaps[uint64]"], unfollowed := true, recurses := true, apart := false }
def EtwoqListsSaid : Prop := etwoqListsRow.holds Try.pinned (OpenSpec.ofChange etwoqListsSpec)

/-- ITS FALSE NEIGHBOUR: 'it returns false'. Refute it at one input. -/
def etwoqListsWrong : ChangeSpec := { name := "etwoqLists", fn := fun _ => fun
  | [d1, d2] => { results := [.lit (.bool false)], args := [d1, d2] }
  | _ => none }
def EtwoqListsWrongFalsely : Prop := etwoqListsRow.holds Try.pinned (OpenSpec.ofChange etwoqListsWrong)

/- THE SECOND FORM. 'bulk': how many values and letters a reading holds, each counted each time it is reached (what is shared counts as often as it is met; a slice's spare places count too). A statement '..UptoSaid' is the law's where the arguments, and the package variables that the reading takes, are together of bulk at most 1048576: NARROWER than '..Said'. Prove '..Said' where nothing that the law and all that it calls make is longer than what came in: it says more and counts as full. Else prove '..UptoSaid'. A law counts once. -/
mutual
def uptoBulk {H : Type} : DataW H → Nat
  | .lit (.string bytes) => bytes.length + 1
  | .lit _ => 1
  | .nil => 1
  | .ptr d => uptoBulk d + 1
  | .slice elems spare => uptoBulkAll elems + uptoBulkAll spare + 1
  | .agg parts => uptoBulkAll parts + 1
  | .iface _ d => uptoBulk d + 1
  | .map entries => uptoBulkEntries entries + 1
  | .held _ => 1
def uptoBulkAll {H : Type} : List (DataW H) → Nat
  | [] => 0
  | d :: r => uptoBulk d + uptoBulkAll r
def uptoBulkEntries {H : Type} : List (Lit × DataW H) → Nat
  | [] => 0
  | x :: r => uptoBulkEntry x + uptoBulkEntries r
def uptoBulkEntry {H : Type} : Lit × DataW H → Nat
  | (.string bytes, d) => bytes.length + uptoBulk d + 1
  | (_, d) => uptoBulk d + 1
 end
def uptoSmall : (H : Type) → List (DataW H) → Bool := fun _ ds => decide (uptoBulkAll ds ≤ 1048576)
def OpenSpec.upto (s : _root_.Go.ChangeSpec) : _root_.Go.OpenSpec := { _root_.Go.OpenSpec.ofChange s with cond := some uptoSmall }

/-- 'hopperlaw14.ElruSteps', WHERE WHAT IT READS IS OF BULK AT MOST 1048576: true; the input reads as it did. -/
def elruStepsUptoRow : OpenClaim := { program := "ytlakojncjldpbaa", sum := "77cd2a369695e34b8d7662c61451bf605261f1285bae3bd27e62091afae52852", func := "hopper/hopperlaw14.ElruSteps", spec := "elruSteps", unfollowed := true, recurses := true, apart := false, narrowed := true }
def ElruStepsUptoSaid : Prop := elruStepsUptoRow.holds Try.pinned (OpenSpec.upto elruStepsSpec)

/-- 'hopperlaw14.ElruRooms', WHERE WHAT IT READS IS OF BULK AT MOST 1048576: true; the input reads as it did. -/
def elruRoomsUptoRow : OpenClaim := { program := "ytlakojncjldpbaa", sum := "77cd2a369695e34b8d7662c61451bf605261f1285bae3bd27e62091afae52852", func := "hopper/hopperlaw14.ElruRooms", spec := "elruRooms", unfollowed := true, recurses := true, apart := false, narrowed := true }
def ElruRoomsUptoSaid : Prop := elruRoomsUptoRow.holds Try.pinned (OpenSpec.upto elruRoomsSpec)

/-- 'hopperlaw14.ElruLooks', WHERE WHAT IT READS IS OF BULK AT MOST 1048576: true; the input reads as it did. -/
def elruLooksUptoRow : OpenClaim := { program := "ytlakojncjldpbaa", sum := "77cd2a369695e34b8d7662c61451bf605261f1285bae3bd27e62091afae52852", func := "hopper/hopperlaw14.ElruLooks", spec := "elruLooks", unfollowed := true, recurses := true, apart := false, narrowed := true }
def ElruLooksUptoSaid : Prop := elruLooksUptoRow.holds Try.pinned (OpenSpec.upto elruLooksSpec)

/-- 'hopperlaw14.ElruNobody', WHERE WHAT IT READS IS OF BULK AT MOST 1048576: true; the input reads as it did. -/
def elruNobodyUptoRow : OpenClaim := { program := "ytlakojncjldpbaa", sum := "77cd2a369695e34b8d7662c61451bf605261f1285bae3bd27e62091afae52852", func := "hopper/hopperlaw14.ElruNobody", spec := "elruNobody", unfollowed := true, recurses := true, apart := false, narrowed := true }
def ElruNobodyUptoSaid : Prop := elruNobodyUptoRow.holds Try.pinned (OpenSpec.upto elruNobodySpec)

/-- 'hopperlaw15.EtwoqSteps', WHERE WHAT IT READS IS OF BULK AT MOST 1048576: true; the input reads as it did. -/
def etwoqStepsUptoRow : OpenClaim := { program := "ytlakojncjldpbaa", sum := "77cd2a369695e34b8d7662c61451bf605261f1285bae3bd27e62091afae52852", func := "hopper/hopperlaw15.EtwoqSteps", spec := "etwoqSteps", unfollowed := true, recurses := true, apart := false, narrowed := true }
def EtwoqStepsUptoSaid : Prop := etwoqStepsUptoRow.holds Try.pinned (OpenSpec.upto etwoqStepsSpec)

/-- 'hopperlaw15.EtwoqLooks', WHERE WHAT IT READS IS OF BULK AT MOST 1048576: true; the input reads as it did. -/
def etwoqLooksUptoRow : OpenClaim := { program := "ytlakojncjldpbaa", sum := "77cd2a369695e34b8d7662c61451bf605261f1285bae3bd27e62091afae52852", func := "hopper/hopperlaw15.EtwoqLooks", spec := "etwoqLooks", unfollowed := true, recurses := true, apart := false, narrowed := true }
def EtwoqLooksUptoSaid : Prop := etwoqLooksUptoRow.holds Try.pinned (OpenSpec.upto etwoqLooksSpec)

/-- 'hopperlaw15.EtwoqRooms', WHERE WHAT IT READS IS OF BULK AT MOST 1048576: true; the input reads as it did. -/
def etwoqRoomsUptoRow : OpenClaim := { program := "ytlakojncjldpbaa", sum := "77cd2a369695e34b8d7662c61451bf605261f1285bae3bd27e62091afae52852", func := "hopper/hopperlaw15.EtwoqRooms", spec := "etwoqRooms", unfollowed := true, recurses := true, apart := false, narrowed := true }
def EtwoqRoomsUptoSaid : Prop := etwoqRoomsUptoRow.holds Try.pinned (OpenSpec.upto etwoqRoomsSpec)

/-- 'hopperlaw15.EtwoqNobody', WHERE WHAT IT READS IS OF BULK AT MOST 1048576: true; the input reads as it did. -/
def etwoqNobodyUptoRow : OpenClaim := { program := "ytlakojncjldpbaa", sum := "77cd2a369695e34b8d7662c61451bf605261f1285bae3bd27e62091afae52852", func := "hopper/hopperlaw15.EtwoqNobody", spec := "etwoqNobody", unfollowed := true, recurses := true, apart := false, narrowed := true }
def EtwoqNobodyUptoSaid : Prop := etwoqNobodyUptoRow.holds Try.pinned (OpenSpec.upto etwoqNobodySpec)

/-- 'hopperlaw17.EarcSteps', WHERE WHAT IT READS IS OF BULK AT MOST 1048576: true; the input reads as it did. -/
def earcStepsUptoRow : OpenClaim := { program := "ytlakojncjldpbaa", sum := "77cd2a369695e34b8d7662c61451bf605261f1285bae3bd27e62091afae52852", func := "hopper/hopperlaw17.EarcSteps", spec := "earcSteps", unfollowed := true, recurses := true, apart := false, narrowed := true }
def EarcStepsUptoSaid : Prop := earcStepsUptoRow.holds Try.pinned (OpenSpec.upto earcStepsSpec)

/-- 'hopperlaw17.EarcLooks', WHERE WHAT IT READS IS OF BULK AT MOST 1048576: true; the input reads as it did. -/
def earcLooksUptoRow : OpenClaim := { program := "ytlakojncjldpbaa", sum := "77cd2a369695e34b8d7662c61451bf605261f1285bae3bd27e62091afae52852", func := "hopper/hopperlaw17.EarcLooks", spec := "earcLooks", unfollowed := true, recurses := true, apart := false, narrowed := true }
def EarcLooksUptoSaid : Prop := earcLooksUptoRow.holds Try.pinned (OpenSpec.upto earcLooksSpec)

/-- 'hopperlaw17.EarcRooms', WHERE WHAT IT READS IS OF BULK AT MOST 1048576: true; the input reads as it did. -/
def earcRoomsUptoRow : OpenClaim := { program := "ytlakojncjldpbaa", sum := "77cd2a369695e34b8d7662c61451bf605261f1285bae3bd27e62091afae52852", func := "hopper/hopperlaw17.EarcRooms", spec := "earcRooms", unfollowed := true, recurses := true, apart := false, narrowed := true }
def EarcRoomsUptoSaid : Prop := earcRoomsUptoRow.holds Try.pinned (OpenSpec.upto earcRoomsSpec)

/-- 'hopperlaw17.EarcNobody', WHERE WHAT IT READS IS OF BULK AT MOST 1048576: true; the input reads as it did. -/
def earcNobodyUptoRow : OpenClaim := { program := "ytlakojncjldpbaa", sum := "77cd2a369695e34b8d7662c61451bf605261f1285bae3bd27e62091afae52852", func := "hopper/hopperlaw17.EarcNobody", spec := "earcNobody", unfollowed := true, recurses := true, apart := false, narrowed := true }
def EarcNobodyUptoSaid : Prop := earcNobodyUptoRow.holds Try.pinned (OpenSpec.upto earcNobodySpec)

/-- 'hopperlaw18.ElirsRooms', WHERE WHAT IT READS IS OF BULK AT MOST 1048576: true; the input reads as it did. -/
def elirsRoomsUptoRow : OpenClaim := { program := "ytlakojncjldpbaa", sum := "77cd2a369695e34b8d7662c61451bf605261f1285bae3bd27e62091afae52852", func := "hopper/hopperlaw18.ElirsRooms", spec := "elirsRooms", unfollowed := true, recurses := true, apart := false, narrowed := true }
def ElirsRoomsUptoSaid : Prop := elirsRoomsUptoRow.holds Try.pinned (OpenSpec.upto elirsRoomsSpec)

/-- 'hopperlaw18.ElirsNobody', WHERE WHAT IT READS IS OF BULK AT MOST 1048576: true; the input reads as it did. -/
def elirsNobodyUptoRow : OpenClaim := { program := "ytlakojncjldpbaa", sum := "77cd2a369695e34b8d7662c61451bf605261f1285bae3bd27e62091afae52852", func := "hopper/hopperlaw18.ElirsNobody", spec := "elirsNobody", unfollowed := true, recurses := true, apart := false, narrowed := true }
def ElirsNobodyUptoSaid : Prop := elirsNobodyUptoRow.holds Try.pinned (OpenSpec.upto elirsNobodySpec)

/-- 'hopperlaw14.ElruLists', WHERE WHAT IT READS IS OF BULK AT MOST 1048576: true; the input reads as it did. -/
def elruListsUptoRow : OpenClaim := { program := "ytlakojncjldpbaa", sum := "77cd2a369695e34b8d7662c61451bf605261f1285bae3bd27e62091afae52852", func := "hopper/hopperlaw14.ElruLists", spec := "elruLists", inPlace := ["slices.overlaps[uint64]"], unfollowed := true, recurses := true, apart := false, narrowed := true }
def ElruListsUptoSaid : Prop := elruListsUptoRow.holds Try.pinned (OpenSpec.upto elruListsSpec)

/-- 'hopperlaw15.EtwoqLists', WHERE WHAT IT READS IS OF BULK AT MOST 1048576: true; the input reads as it did. -/
def etwoqListsUptoRow : OpenClaim := { program := "ytlakojncjldpbaa", sum := "77cd2a369695e34b8d7662c61451bf605261f1285bae3bd27e62091afae52852", func := "hopper/hopperlaw15.EtwoqLists", spec := "etwoqLists", inPlace := ["slices.overlaps[uint64]"], unfollowed := true, recurses := true, apart := false, narrowed := true }
def EtwoqListsUptoSaid : Prop := etwoqListsUptoRow.holds Try.pinned (OpenSpec.upto etwoqListsSpec)

end Rows
end Go.Proofs.Ytlakojncjldpbaa
