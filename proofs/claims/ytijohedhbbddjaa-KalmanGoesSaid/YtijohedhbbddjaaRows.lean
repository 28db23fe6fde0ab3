/-
  No cell of these rows narrows 'for every input' (looked for: loops, veiled, ifaces, maps, wideKeys, modest, calm, conditions, laid).
  DERIVED. THE GIVEN ROWS OF THIS SEAT. 8 by the template 'for every input the law returns true; each argument reads behind the call as it read before'; 0 by the template 'total and deterministic' (their statements: YtijohedhbbddjaaTotals.lean).
  GIVEN WITH THE SEED: the statements are not yours to turn. If you find one false, say at which input.
  Laid BY PROGRAM, IN A SANDBOX (cutbox-rows.mjs): the forced cells as the released guide's own fill.sh prints them over the translation 3de452b4a23cdb9d… (all of the seat's roots in one cut). By AI agents, Wed Nov 11 2026. No macro, syntax, notation, axiom, sorry.
-/
import Derived.Test.YtijohedhbbddjaaChecked
import GoSem.Claim
import GoSem.ClaimJoined
import GoSem.ClaimMapViews
import Derived.JoinedTies
import Derived.KernelRfl
namespace Go.Proofs.Ytijohedhbbddjaa
/- THE CELL 'sum', in the pinned program and in every row, IS THE sha256 OF THE DUMP (.gsa) THAT YtijohedhbbddjaaProg.lean LOADS. Nothing in Lean hashes anything: it is a label: what it is worth is what the hold of that sum in a sandbox is worth. -/
noncomputable def Try.pinned : Pinned := { name := "ytijohedhbbddjaa", sum := "3de452b4a23cdb9de6de0fbca49448bc6933b8c98d2daf3e338e368c3b7c9189", checked := Try.checked }
namespace Rows
def none {H : Type} : Left H := { results := [], args := [] }

/-- 'alidadelaw03.MatScales': WHATEVER THE INPUT: true; the input reads as it did. -/
def matScalesSpec : ChangeSpec := { name := "matScales", fn := fun _ => fun
  | [d1, d2] => { results := [.lit (.bool true)], args := [d1, d2] }
  | _ => none }
def matScalesRow : OpenClaim := { program := "ytijohedhbbddjaa", sum := "3de452b4a23cdb9de6de0fbca49448bc6933b8c98d2daf3e338e368c3b7c9189", func := "alidade/alidadelaw03.MatScales", spec := "matScales", unfollowed := true, recurses := true, apart := false }
def MatScalesSaid : Prop := matScalesRow.holds Try.pinned (OpenSpec.ofChange matScalesSpec)

/-- ITS FALSE NEIGHBOUR: 'it returns false'. Refute it at one input. -/
def matScalesWrong : ChangeSpec := { name := "matScales", fn := fun _ => fun
  | [d1, d2] => { results := [.lit (.bool false)], args := [d1, d2] }
  | _ => none }
def MatScalesWrongFalsely : Prop := matScalesRow.holds Try.pinned (OpenSpec.ofChange matScalesWrong)

/-- 'alidadelaw03.MatTwo': WHATEVER THE INPUT: true; the input reads as it did. -/
def matTwoSpec : ChangeSpec := { name := "matTwo", fn := fun _ => fun
  | [d1, d2] => { results := [.lit (.bool true)], args := [d1, d2] }
  | _ => none }
def matTwoRow : OpenClaim := { program := "ytijohedhbbddjaa", sum := "3de452b4a23cdb9de6de0fbca49448bc6933b8c98d2daf3e338e368c3b7c9189", func := "alidade/alidadelaw03.MatTwo", spec := "matTwo", unfollowed := true, recurses := true, apart := false }
def MatTwoSaid : Prop := matTwoRow.holds Try.pinned (OpenSpec.ofChange matTwoSpec)

/-- ITS FALSE NEIGHBOUR: 'it returns false'. Refute it at one input. -/
def matTwoWrong : ChangeSpec := { name := "matTwo", fn := fun _ => fun
  | [d1, d2] => { results := [.lit (.bool false)], args := [d1, d2] }
  | _ => none }
def MatTwoWrongFalsely : Prop := matTwoRow.holds Try.pinned (OpenSpec.ofChange matTwoWrong)

/-- 'alidadelaw01.QfixRises': WHATEVER THE INPUT: true; the input reads as it did. -/
def qfixRisesSpec : ChangeSpec := { name := "qfixRises", fn := fun _ => fun
  | [d1, d2, d3] => { results := [.lit (.bool true)], args := [d1, d2, d3] }
  | _ => none }
def qfixRisesRow : OpenClaim := { program := "ytijohedhbbddjaa", sum := "3de452b4a23cdb9de6de0fbca49448bc6933b8c98d2daf3e338e368c3b7c9189", func := "alidade/alidadelaw01.QfixRises", spec := "qfixRises", unfollowed := true, recurses := true, named := ["math/bits.divideError", "math/bits.overflowError"], apart := false }
def QfixRisesSaid : Prop := qfixRisesRow.holds Try.pinned (OpenSpec.ofChange qfixRisesSpec)

/-- ITS FALSE NEIGHBOUR: 'it returns false'. Refute it at one input. -/
def qfixRisesWrong : ChangeSpec := { name := "qfixRises", fn := fun _ => fun
  | [d1, d2, d3] => { results := [.lit (.bool false)], args := [d1, d2, d3] }
  | _ => none }
def QfixRisesWrongFalsely : Prop := qfixRisesRow.holds Try.pinned (OpenSpec.ofChange qfixRisesWrong)

/-- 'alidadelaw03.MatOne': WHATEVER THE INPUT: true; the input reads as it did. -/
def matOneSpec : ChangeSpec := { name := "matOne", fn := fun _ => fun
  | [d] => { results := [.lit (.bool true)], args := [d] }
  | _ => none }
def matOneRow : OpenClaim := { program := "ytijohedhbbddjaa", sum := "3de452b4a23cdb9de6de0fbca49448bc6933b8c98d2daf3e338e368c3b7c9189", func := "alidade/alidadelaw03.MatOne", spec := "matOne", unfollowed := true, recurses := true, apart := false }
def MatOneSaid : Prop := matOneRow.holds Try.pinned (OpenSpec.ofChange matOneSpec)

/-- ITS FALSE NEIGHBOUR: 'it returns false'. Refute it at one input. -/
def matOneWrong : ChangeSpec := { name := "matOne", fn := fun _ => fun
  | [d] => { results := [.lit (.bool false)], args := [d] }
  | _ => none }
def MatOneWrongFalsely : Prop := matOneRow.holds Try.pinned (OpenSpec.ofChange matOneWrong)

/-- 'alidadelaw01.QfixReckons': WHATEVER THE INPUT: true; the input reads as it did. -/
def qfixReckonsSpec : ChangeSpec := { name := "qfixReckons", fn := fun _ => fun
  | [d1, d2] => { results := [.lit (.bool true)], args := [d1, d2] }
  | _ => none }
def qfixReckonsRow : OpenClaim := { program := "ytijohedhbbddjaa", sum := "3de452b4a23cdb9de6de0fbca49448bc6933b8c98d2daf3e338e368c3b7c9189", func := "alidade/alidadelaw01.QfixReckons", spec := "qfixReckons", unfollowed := true, recurses := true, named := ["math/bits.divideError", "math/bits.overflowError"], apart := false }
def QfixReckonsSaid : Prop := qfixReckonsRow.holds Try.pinned (OpenSpec.ofChange qfixReckonsSpec)

/-- ITS FALSE NEIGHBOUR: 'it returns false'. Refute it at one input. -/
def qfixReckonsWrong : ChangeSpec := { name := "qfixReckons", fn := fun _ => fun
  | [d1, d2] => { results := [.lit (.bool false)], args := [d1, d2] }
  | _ => none }
def QfixReckonsWrongFalsely : Prop := qfixReckonsRow.holds Try.pinned (OpenSpec.ofChange qfixReckonsWrong)

/-- 'alidadelaw04.QuatTells': WHATEVER THE INPUT: true; the input reads as it did. -/
def quatTellsSpec : ChangeSpec := { name := "quatTells", fn := fun _ => fun
  | [d1, d2] => { results := [.lit (.bool true)], args := [d1, d2] }
  | _ => none }
def quatTellsRow : OpenClaim := { program := "ytijohedhbbddjaa", sum := "3de452b4a23cdb9de6de0fbca49448bc6933b8c98d2daf3e338e368c3b7c9189", func := "alidade/alidadelaw04.QuatTells", spec := "quatTells", unfollowed := true, recurses := true, named := ["math/bits.divideError", "math/bits.overflowError"], apart := false }
def QuatTellsSaid : Prop := quatTellsRow.holds Try.pinned (OpenSpec.ofChange quatTellsSpec)

/-- ITS FALSE NEIGHBOUR: 'it returns false'. Refute it at one input. -/
def quatTellsWrong : ChangeSpec := { name := "quatTells", fn := fun _ => fun
  | [d1, d2] => { results := [.lit (.bool false)], args := [d1, d2] }
  | _ => none }
def QuatTellsWrongFalsely : Prop := quatTellsRow.holds Try.pinned (OpenSpec.ofChange quatTellsWrong)

/-- 'alidadelaw04.QuatTurns': WHATEVER THE INPUT: true; the input reads as it did. -/
def quatTurnsSpec : ChangeSpec := { name := "quatTurns", fn := fun _ => fun
  | [d1, d2, d3] => { results := [.lit (.bool true)], args := [d1, d2, d3] }
  | _ => none }
def quatTurnsRow : OpenClaim := { program := "ytijohedhbbddjaa", sum := "3de452b4a23cdb9de6de0fbca49448bc6933b8c98d2daf3e338e368c3b7c9189", func := "alidade/alidadelaw04.QuatTurns", spec := "quatTurns", unfollowed := true, recurses := true, named := ["math/bits.divideError", "math/bits.overflowError"], apart := false }
def QuatTurnsSaid : Prop := quatTurnsRow.holds Try.pinned (OpenSpec.ofChange quatTurnsSpec)

/-- ITS FALSE NEIGHBOUR: 'it returns false'. Refute it at one input. -/
def quatTurnsWrong : ChangeSpec := { name := "quatTurns", fn := fun _ => fun
  | [d1, d2, d3] => { results := [.lit (.bool false)], args := [d1, d2, d3] }
  | _ => none }
def QuatTurnsWrongFalsely : Prop := quatTurnsRow.holds Try.pinned (OpenSpec.ofChange quatTurnsWrong)

/-- 'alidadelaw05.KalmanGoes': WHATEVER THE INPUT: true; the input reads as it did. -/
def kalmanGoesSpec : ChangeSpec := { name := "kalmanGoes", fn := fun _ => fun
  | [d] => { results := [.lit (.bool true)], args := [d] }
  | _ => none }
def kalmanGoesRow : OpenClaim := { program := "ytijohedhbbddjaa", sum := "3de452b4a23cdb9de6de0fbca49448bc6933b8c98d2daf3e338e368c3b7c9189", func := "alidade/alidadelaw05.KalmanGoes", spec := "kalmanGoes", unfollowed := true, recurses := true, named := ["math/bits.divideError", "math/bits.overflowError"], apart := false }
def KalmanGoesSaid : Prop := kalmanGoesRow.holds Try.pinned (OpenSpec.ofChange kalmanGoesSpec)

/-- ITS FALSE NEIGHBOUR: 'it returns false'. Refute it at one input. -/
def kalmanGoesWrong : ChangeSpec := { name := "kalmanGoes", fn := fun _ => fun
  | [d] => { results := [.lit (.bool false)], args := [d] }
  | _ => none }
def KalmanGoesWrongFalsely : Prop := kalmanGoesRow.holds Try.pinned (OpenSpec.ofChange kalmanGoesWrong)

/- THE SECOND FORM. 'bulk': how many values and letters a reading holds, each counted each time it is reached (what is shared counts as often as it is met; a slice's spare places count too). A statement '..UptoSaid' is the law's where the arguments, and the package variables that the reading takes, are together of bulk at most 1048576: NARROWER than '..Said'. Prove '..Said' where nothing that the law and all that it calls make is longer than what came in: it says more and counts as full. Else prove '..UptoSaid'. A law counts once. -/
mutual
def uptoBulk {H : Type} : DataW H → Nat
  | .lit (.string bytes) => bytes.length + 1
  | .lit _ => 1
  | .nil => 1
  | .ptr d => uptoBulk d + 1
  | .slice elems spare => uptoBulkAll elems + uptoBulkAll spare + 1
  | .agg parts => uptoBulkAll parts + 1
  | .iface _ d => uptoBulk d + 1
  | .map entries => uptoBulkEntries entries + 1
  | .held _ => 1
def uptoBulkAll {H : Type} : List (DataW H) → Nat
  | [] => 0
  | d :: r => uptoBulk d + uptoBulkAll r
def uptoBulkEntries {H : Type} : List (Lit × DataW H) → Nat
  | [] => 0
  | x :: r => uptoBulkEntry x + uptoBulkEntries r
def uptoBulkEntry {H : Type} : Lit × DataW H → Nat
  | (.string bytes, d) => bytes.length + uptoBulk d + 1
  | (_, d) => uptoBulk d + 1
 end
def uptoSmall : (H : Type) → List (DataW H) → Bool := fun _ ds => decide (uptoBulkAll ds ≤ 1048576)
def OpenSpec.upto (s : _root_.Go.ChangeSpec) : _root_.Go.OpenSpec := { _root_.Go.OpenSpec.ofChange s with cond := some uptoSmall }

/-- 'alidadelaw03.MatScales', WHERE WHAT IT READS IS OF BULK AT MOST 1048576: true; the input reads as it did. -/
def matScalesUptoRow : OpenClaim := { program := "ytijohedhbbddjaa", sum := "3de452b4a23cdb9de6de0fbca49448bc6933b8c98d2daf3e338e368c3b7c9189", func := "alidade/alidadelaw03.MatScales", spec := "matScales", unfollowed := true, recurses := true, apart := false, narrowed := true }
def MatScalesUptoSaid : Prop := matScalesUptoRow.holds Try.pinned (OpenSpec.upto matScalesSpec)

/-- 'alidadelaw03.MatTwo', WHERE WHAT IT READS IS OF BULK AT MOST 1048576: true; the input reads as it did. -/
def matTwoUptoRow : OpenClaim := { program := "ytijohedhbbddjaa", sum := "3de452b4a23cdb9de6de0fbca49448bc6933b8c98d2daf3e338e368c3b7c9189", func := "alidade/alidadelaw03.MatTwo", spec := "matTwo", unfollowed := true, recurses := true, apart := false, narrowed := true }
def MatTwoUptoSaid : Prop := matTwoUptoRow.holds Try.pinned (OpenSpec.upto matTwoSpec)

/-- 'alidadelaw01.QfixRises', WHERE WHAT IT READS IS OF BULK AT MOST 1048576: true; the input reads as it did. -/
def qfixRisesUptoRow : OpenClaim := { program := "ytijohedhbbddjaa", sum := "3de452b4a23cdb9de6de0fbca49448bc6933b8c98d2daf3e338e368c3b7c9189", func := "alidade/alidadelaw01.QfixRises", spec := "qfixRises", unfollowed := true, recurses := true, named := ["math/bits.divideError", "math/bits.overflowError"], apart := false, narrowed := true }
def QfixRisesUptoSaid : Prop := qfixRisesUptoRow.holds Try.pinned (OpenSpec.upto qfixRisesSpec)

/-- 'alidadelaw03.MatOne', WHERE WHAT IT READS IS OF BULK AT MOST 1048576: true; the input reads as it did. -/
def matOneUptoRow : OpenClaim := { program := "ytijohedhbbddjaa", sum := "3de452b4a23cdb9de6de0fbca49448bc6933b8c98d2daf3e338e368c3b7c9189", func := "alidade/alidadelaw03.MatOne", spec := "matOne", unfollowed := true, recurses := true, apart := false, narrowed := true }
def MatOneUptoSaid : Prop := matOneUptoRow.holds Try.pinned (OpenSpec.upto matOneSpec)

/-- 'alidadelaw01.QfixReckons', WHERE WHAT IT READS IS OF BULK AT MOST 1048576: true; the input reads as it did. -/
def qfixReckonsUptoRow : OpenClaim := { program := "ytijohedhbbddjaa", sum := "3de452b4a23cdb9de6de0fbca49448bc6933b8c98d2daf3e338e368c3b7c9189", func := "alidade/alidadelaw01.QfixReckons", spec := "qfixReckons", unfollowed := true, recurses := true, named := ["math/bits.divideError", "math/bits.overflowError"], apart := false, narrowed := true }
def QfixReckonsUptoSaid : Prop := qfixReckonsUptoRow.holds Try.pinned (OpenSpec.upto qfixReckonsSpec)

/-- 'alidadelaw04.QuatTells', WHERE WHAT IT READS IS OF BULK AT MOST 1048576: true; the input reads as it did. -/
def quatTellsUptoRow : OpenClaim := { program := "ytijohedhbbddjaa", sum := "3de452b4a23cdb9de6de0fbca49448bc6933b8c98d2daf3e338e368c3b7c9189", func := "alidade/alidadelaw04.QuatTells", spec := "quatTells", unfollowed := true, recurses := true, named := ["math/bits.divideError", "math/bits.overflowError"], apart := false, narrowed := true }
def QuatTellsUptoSaid : Prop := quatTellsUptoRow.holds Try.pinned (OpenSpec.upto quatTellsSpec)

/-- 'alidadelaw04.QuatTurns', WHERE WHAT IT READS IS OF BULK AT MOST 1048576: true; the input reads as it did. -/
def quatTurnsUptoRow : OpenClaim := { program := "ytijohedhbbddjaa", sum := "3de452b4a23cdb9de6de0fbca49448bc6933b8c98d2daf3e338e368c3b7c9189", func := "alidade/alidadelaw04.QuatTurns", spec := "quatTurns", unfollowed := true, recurses := true, named := ["math/bits.divideError", "math/bits.overflowError"], apart := false, narrowed := true }
def QuatTurnsUptoSaid : Prop := quatTurnsUptoRow.holds Try.pinned (OpenSpec.upto quatTurnsSpec)

/-- 'alidadelaw05.KalmanGoes', WHERE WHAT IT READS IS OF BULK AT MOST 1048576: true; the input reads as it did. -/
def kalmanGoesUptoRow : OpenClaim := { program := "ytijohedhbbddjaa", sum := "3de452b4a23cdb9de6de0fbca49448bc6933b8c98d2daf3e338e368c3b7c9189", func := "alidade/alidadelaw05.KalmanGoes", spec := "kalmanGoes", unfollowed := true, recurses := true, named := ["math/bits.divideError", "math/bits.overflowError"], apart := false, narrowed := true }
def KalmanGoesUptoSaid : Prop := kalmanGoesUptoRow.holds Try.pinned (OpenSpec.upto kalmanGoesSpec)

end Rows
end Go.Proofs.Ytijohedhbbddjaa
