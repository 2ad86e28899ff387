/-
  No cell of these rows narrows 'for every input' (looked for: loops, veiled, ifaces, maps, wideKeys, modest, calm, conditions, laid).
  DERIVED. THE GIVEN ROWS OF THIS SEAT. 8 by the template 'for every input the law returns true; each argument reads behind the call as it read before'; 0 by the template 'total and deterministic' (their statements: YtjbdiobnlmhidaaTotals.lean).
  GIVEN WITH THE SEED: the statements are not yours to turn. If you find one false, say at which input.
  Laid BY PROGRAM, IN A SANDBOX (cutbox-rows.mjs): the forced cells as the released guide's own fill.sh prints them over the translation 1b251bab0f70b923… (all of the seat's roots in one cut). By AI agents, Wed Nov 11 2026. No macro, syntax, notation, axiom, sorry.
-/
import Derived.Test.YtjbdiobnlmhidaaChecked
import GoSem.Claim
import GoSem.ClaimJoined
import GoSem.ClaimMapViews
import Derived.JoinedTies
import Derived.KernelRfl
namespace Go.Proofs.Ytjbdiobnlmhidaa
/- THE CELL 'sum', in the pinned program and in every row, IS THE sha256 OF THE DUMP (.gsa) THAT YtjbdiobnlmhidaaProg.lean LOADS. Nothing in Lean hashes anything: it is a label: what it is worth is what the hold of that sum in a sandbox is worth. -/
noncomputable def Try.pinned : Pinned := { name := "ytjbdiobnlmhidaa", sum := "1b251bab0f70b9236b832dcdbb27ef9eea17b2ba680de361677582ad79668146", checked := Try.checked }
namespace Rows
def none {H : Type} : Left H := { results := [], args := [] }

/-- 'chcsolverlaw25.SatPropagateMatchesSpec': WHATEVER THE INPUT: true; the input reads as it did. -/
def satPropagateMatchesSpecSpec : ChangeSpec := { name := "satPropagateMatchesSpec", fn := fun _ => fun
  | [d1, d2, d3] => { results := [.lit (.bool true)], args := [d1, d2, d3] }
  | _ => none }
def satPropagateMatchesSpecRow : OpenClaim := { program := "ytjbdiobnlmhidaa", sum := "1b251bab0f70b9236b832dcdbb27ef9eea17b2ba680de361677582ad79668146", func := "chcsolver/chcsolverlaw25.SatPropagateMatchesSpec", spec := "satPropagateMatchesSpec", unfollowed := true, recurses := true, apart := false }
def SatPropagateMatchesSpecSaid : Prop := satPropagateMatchesSpecRow.holds Try.pinned (OpenSpec.ofChange satPropagateMatchesSpecSpec)

/-- ITS FALSE NEIGHBOUR: 'it returns false'. Refute it at one input. -/
def satPropagateMatchesSpecWrong : ChangeSpec := { name := "satPropagateMatchesSpec", fn := fun _ => fun
  | [d1, d2, d3] => { results := [.lit (.bool false)], args := [d1, d2, d3] }
  | _ => none }
def SatPropagateMatchesSpecWrongFalsely : Prop := satPropagateMatchesSpecRow.holds Try.pinned (OpenSpec.ofChange satPropagateMatchesSpecWrong)

/-- 'chcsolverlaw25.SatCheckMatchesSpec': WHATEVER THE INPUT: true; the input reads as it did. -/
def satCheckMatchesSpecSpec : ChangeSpec := { name := "satCheckMatchesSpec", fn := fun _ => fun
  | [d1, d2, d3, d4] => { results := [.lit (.bool true)], args := [d1, d2, d3, d4] }
  | _ => none }
def satCheckMatchesSpecRow : OpenClaim := { program := "ytjbdiobnlmhidaa", sum := "1b251bab0f70b9236b832dcdbb27ef9eea17b2ba680de361677582ad79668146", func := "chcsolver/chcsolverlaw25.SatCheckMatchesSpec", spec := "satCheckMatchesSpec", unfollowed := true, recurses := true, apart := false }
def SatCheckMatchesSpecSaid : Prop := satCheckMatchesSpecRow.holds Try.pinned (OpenSpec.ofChange satCheckMatchesSpecSpec)

/-- ITS FALSE NEIGHBOUR: 'it returns false'. Refute it at one input. -/
def satCheckMatchesSpecWrong : ChangeSpec := { name := "satCheckMatchesSpec", fn := fun _ => fun
  | [d1, d2, d3, d4] => { results := [.lit (.bool false)], args := [d1, d2, d3, d4] }
  | _ => none }
def SatCheckMatchesSpecWrongFalsely : Prop := satCheckMatchesSpecRow.holds Try.pinned (OpenSpec.ofChange satCheckMatchesSpecWrong)

/-- 'chcsolverlaw25.SatAnswers': WHATEVER THE INPUT: true; the input reads as it did. -/
def satAnswersSpec : ChangeSpec := { name := "satAnswers", fn := fun _ => fun
  | [d1, d2, d3] => { results := [.lit (.bool true)], args := [d1, d2, d3] }
  | _ => none }
def satAnswersRow : OpenClaim := { program := "ytjbdiobnlmhidaa", sum := "1b251bab0f70b9236b832dcdbb27ef9eea17b2ba680de361677582ad79668146", func := "chcsolver/chcsolverlaw25.SatAnswers", spec := "satAnswers", unfollowed := true, recurses := true, apart := false }
def SatAnswersSaid : Prop := satAnswersRow.holds Try.pinned (OpenSpec.ofChange satAnswersSpec)

/-- ITS FALSE NEIGHBOUR: 'it returns false'. Refute it at one input. -/
def satAnswersWrong : ChangeSpec := { name := "satAnswers", fn := fun _ => fun
  | [d1, d2, d3] => { results := [.lit (.bool false)], args := [d1, d2, d3] }
  | _ => none }
def SatAnswersWrongFalsely : Prop := satAnswersRow.holds Try.pinned (OpenSpec.ofChange satAnswersWrong)

/-- 'chcsolverlaw25.SatComplete': WHATEVER THE INPUT: true; the input reads as it did. -/
def satCompleteSpec : ChangeSpec := { name := "satComplete", fn := fun _ => fun
  | [d1, d2, d3, d4] => { results := [.lit (.bool true)], args := [d1, d2, d3, d4] }
  | _ => none }
def satCompleteRow : OpenClaim := { program := "ytjbdiobnlmhidaa", sum := "1b251bab0f70b9236b832dcdbb27ef9eea17b2ba680de361677582ad79668146", func := "chcsolver/chcsolverlaw25.SatComplete", spec := "satComplete", unfollowed := true, recurses := true, apart := false }
def SatCompleteSaid : Prop := satCompleteRow.holds Try.pinned (OpenSpec.ofChange satCompleteSpec)

/-- ITS FALSE NEIGHBOUR: 'it returns false'. Refute it at one input. -/
def satCompleteWrong : ChangeSpec := { name := "satComplete", fn := fun _ => fun
  | [d1, d2, d3, d4] => { results := [.lit (.bool false)], args := [d1, d2, d3, d4] }
  | _ => none }
def SatCompleteWrongFalsely : Prop := satCompleteRow.holds Try.pinned (OpenSpec.ofChange satCompleteWrong)

/-- 'chcsolverlaw25.SatProofSound': WHATEVER THE INPUT: true; the input reads as it did. -/
def satProofSoundSpec : ChangeSpec := { name := "satProofSound", fn := fun _ => fun
  | [d1, d2, d3, d4, d5] => { results := [.lit (.bool true)], args := [d1, d2, d3, d4, d5] }
  | _ => none }
def satProofSoundRow : OpenClaim := { program := "ytjbdiobnlmhidaa", sum := "1b251bab0f70b9236b832dcdbb27ef9eea17b2ba680de361677582ad79668146", func := "chcsolver/chcsolverlaw25.SatProofSound", spec := "satProofSound", unfollowed := true, recurses := true, apart := false }
def SatProofSoundSaid : Prop := satProofSoundRow.holds Try.pinned (OpenSpec.ofChange satProofSoundSpec)

/-- ITS FALSE NEIGHBOUR: 'it returns false'. Refute it at one input. -/
def satProofSoundWrong : ChangeSpec := { name := "satProofSound", fn := fun _ => fun
  | [d1, d2, d3, d4, d5] => { results := [.lit (.bool false)], args := [d1, d2, d3, d4, d5] }
  | _ => none }
def SatProofSoundWrongFalsely : Prop := satProofSoundRow.holds Try.pinned (OpenSpec.ofChange satProofSoundWrong)

/-- 'chcsolverlaw25.SatTrims': WHATEVER THE INPUT: true; the input reads as it did. -/
def satTrimsSpec : ChangeSpec := { name := "satTrims", fn := fun _ => fun
  | [d1, d2, d3] => { results := [.lit (.bool true)], args := [d1, d2, d3] }
  | _ => none }
def satTrimsRow : OpenClaim := { program := "ytjbdiobnlmhidaa", sum := "1b251bab0f70b9236b832dcdbb27ef9eea17b2ba680de361677582ad79668146", func := "chcsolver/chcsolverlaw25.SatTrims", spec := "satTrims", unfollowed := true, recurses := true, apart := false }
def SatTrimsSaid : Prop := satTrimsRow.holds Try.pinned (OpenSpec.ofChange satTrimsSpec)

/-- ITS FALSE NEIGHBOUR: 'it returns false'. Refute it at one input. -/
def satTrimsWrong : ChangeSpec := { name := "satTrims", fn := fun _ => fun
  | [d1, d2, d3] => { results := [.lit (.bool false)], args := [d1, d2, d3] }
  | _ => none }
def SatTrimsWrongFalsely : Prop := satTrimsRow.holds Try.pinned (OpenSpec.ofChange satTrimsWrong)

/-- 'chcsolverlaw25.SatCores': WHATEVER THE INPUT: true; the input reads as it did. -/
def satCoresSpec : ChangeSpec := { name := "satCores", fn := fun _ => fun
  | [d1, d2, d3, d4] => { results := [.lit (.bool true)], args := [d1, d2, d3, d4] }
  | _ => none }
def satCoresRow : OpenClaim := { program := "ytjbdiobnlmhidaa", sum := "1b251bab0f70b9236b832dcdbb27ef9eea17b2ba680de361677582ad79668146", func := "chcsolver/chcsolverlaw25.SatCores", spec := "satCores", unfollowed := true, recurses := true, apart := false }
def SatCoresSaid : Prop := satCoresRow.holds Try.pinned (OpenSpec.ofChange satCoresSpec)

/-- ITS FALSE NEIGHBOUR: 'it returns false'. Refute it at one input. -/
def satCoresWrong : ChangeSpec := { name := "satCores", fn := fun _ => fun
  | [d1, d2, d3, d4] => { results := [.lit (.bool false)], args := [d1, d2, d3, d4] }
  | _ => none }
def SatCoresWrongFalsely : Prop := satCoresRow.holds Try.pinned (OpenSpec.ofChange satCoresWrong)

/-- 'chcsolverlaw25.SatPropagateMonotone': WHATEVER THE INPUT: true; the input reads as it did. -/
def satPropagateMonotoneSpec : ChangeSpec := { name := "satPropagateMonotone", fn := fun _ => fun
  | [d1, d2, d3, d4] => { results := [.lit (.bool true)], args := [d1, d2, d3, d4] }
  | _ => none }
def satPropagateMonotoneRow : OpenClaim := { program := "ytjbdiobnlmhidaa", sum := "1b251bab0f70b9236b832dcdbb27ef9eea17b2ba680de361677582ad79668146", func := "chcsolver/chcsolverlaw25.SatPropagateMonotone", spec := "satPropagateMonotone", unfollowed := true, recurses := true, apart := false }
def SatPropagateMonotoneSaid : Prop := satPropagateMonotoneRow.holds Try.pinned (OpenSpec.ofChange satPropagateMonotoneSpec)

/-- ITS FALSE NEIGHBOUR: 'it returns false'. Refute it at one input. -/
def satPropagateMonotoneWrong : ChangeSpec := { name := "satPropagateMonotone", fn := fun _ => fun
  | [d1, d2, d3, d4] => { results := [.lit (.bool false)], args := [d1, d2, d3, d4] }
  | _ => none }
def SatPropagateMonotoneWrongFalsely : Prop := satPropagateMonotoneRow.holds Try.pinned (OpenSpec.ofChange satPropagateMonotoneWrong)

/- THE SECOND FORM. 'bulk': how many values and letters a reading holds, each counted each time it is reached (what is shared counts as often as it is met; a slice's spare places count too). A statement '..UptoSaid' is the law's where the arguments, and the package variables that the reading takes, are together of bulk at most 1048576: NARROWER than '..Said'. Prove '..Said' where nothing that the law and all that it calls make is longer than what came in: it says more and counts as full. Else prove '..UptoSaid'. A law counts once. -/
mutual
def uptoBulk {H : Type} : DataW H → Nat
  | .lit (.string bytes) => bytes.length + 1
  | .lit _ => 1
  | .nil => 1
  | .ptr d => uptoBulk d + 1
  | .slice elems spare => uptoBulkAll elems + uptoBulkAll spare + 1
  | .agg parts => uptoBulkAll parts + 1
  | .iface _ d => uptoBulk d + 1
  | .map entries => uptoBulkEntries entries + 1
  | .held _ => 1
def uptoBulkAll {H : Type} : List (DataW H) → Nat
  | [] => 0
  | d :: r => uptoBulk d + uptoBulkAll r
def uptoBulkEntries {H : Type} : List (Lit × DataW H) → Nat
  | [] => 0
  | x :: r => uptoBulkEntry x + uptoBulkEntries r
def uptoBulkEntry {H : Type} : Lit × DataW H → Nat
  | (.string bytes, d) => bytes.length + uptoBulk d + 1
  | (_, d) => uptoBulk d + 1
 end
def uptoSmall : (H : Type) → List (DataW H) → Bool := fun _ ds => decide (uptoBulkAll ds ≤ 1048576)
def OpenSpec.upto (s : _root_.Go.ChangeSpec) : _root_.Go.OpenSpec := { _root_.Go.OpenSpec.ofChange s with cond := some uptoSmall }

/-- 'chcsolverlaw25.SatPropagateMatchesSpec', WHERE WHAT IT READS IS OF BULK AT MOST 1048576: true; the input reads as it did. -/
def satPropagateMatchesSpecUptoRow : OpenClaim := { program := "ytjbdiobnlmhidaa", sum := "1b251bab0f70b9236b832dcdbb27ef9eea17b2ba680de361677582ad79668146", func := "chcsolver/chcsolverlaw25.SatPropagateMatchesSpec", spec := "satPropagateMatchesSpec", unfollowed := true, recurses := true, apart := false, narrowed := true }
def SatPropagateMatchesSpecUptoSaid : Prop := satPropagateMatchesSpecUptoRow.holds Try.pinned (OpenSpec.upto satPropagateMatchesSpecSpec)

/-- 'chcsolverlaw25.SatCheckMatchesSpec', WHERE WHAT IT READS IS OF BULK AT MOST 1048576: true; the input reads as it did. -/
def satCheckMatchesSpecUptoRow : OpenClaim := { program := "ytjbdiobnlmhidaa", sum := "1b251bab0f70b9236b832dcdbb27ef9eea17b2ba680de361677582ad79668146", func := "chcsolver/chcsolverlaw25.SatCheckMatchesSpec", spec := "satCheckMatchesSpec", unfollowed := true, recurses := true, apart := false, narrowed := true }
def SatCheckMatchesSpecUptoSaid : Prop := satCheckMatchesSpecUptoRow.holds Try.pinned (OpenSpec.upto satCheckMatchesSpecSpec)

/-- 'chcsolverlaw25.SatAnswers', WHERE WHAT IT READS IS OF BULK AT MOST 1048576: true; the input reads as it did. -/
def satAnswersUptoRow : OpenClaim := { program := "ytjbdiobnlmhidaa", sum := "1b251bab0f70b9236b832dcdbb27ef9eea17b2ba680de361677582ad79668146", func := "chcsolver/chcsolverlaw25.SatAnswers", spec := "satAnswers", unfollowed := true, recurses := true, apart := false, narrowed := true }
def SatAnswersUptoSaid : Prop := satAnswersUptoRow.holds Try.pinned (OpenSpec.upto satAnswersSpec)

/-- 'chcsolverlaw25.SatComplete', WHERE WHAT IT READS IS OF BULK AT MOST 1048576: true; the input reads as it did. -/
def satCompleteUptoRow : OpenClaim := { program := "ytjbdiobnlmhidaa", sum := "1b251bab0f70b9236b832dcdbb27ef9eea17b2ba680de361677582ad79668146", func := "chcsolver/chcsolverlaw25.SatComplete", spec := "satComplete", unfollowed := true, recurses := true, apart := false, narrowed := true }
def SatCompleteUptoSaid : Prop := satCompleteUptoRow.holds Try.pinned (OpenSpec.upto satCompleteSpec)

/-- 'chcsolverlaw25.SatProofSound', WHERE WHAT IT READS IS OF BULK AT MOST 1048576: true; the input reads as it did. -/
def satProofSoundUptoRow : OpenClaim := { program := "ytjbdiobnlmhidaa", sum := "1b251bab0f70b9236b832dcdbb27ef9eea17b2ba680de361677582ad79668146", func := "chcsolver/chcsolverlaw25.SatProofSound", spec := "satProofSound", unfollowed := true, recurses := true, apart := false, narrowed := true }
def SatProofSoundUptoSaid : Prop := satProofSoundUptoRow.holds Try.pinned (OpenSpec.upto satProofSoundSpec)

/-- 'chcsolverlaw25.SatTrims', WHERE WHAT IT READS IS OF BULK AT MOST 1048576: true; the input reads as it did. -/
def satTrimsUptoRow : OpenClaim := { program := "ytjbdiobnlmhidaa", sum := "1b251bab0f70b9236b832dcdbb27ef9eea17b2ba680de361677582ad79668146", func := "chcsolver/chcsolverlaw25.SatTrims", spec := "satTrims", unfollowed := true, recurses := true, apart := false, narrowed := true }
def SatTrimsUptoSaid : Prop := satTrimsUptoRow.holds Try.pinned (OpenSpec.upto satTrimsSpec)

/-- 'chcsolverlaw25.SatCores', WHERE WHAT IT READS IS OF BULK AT MOST 1048576: true; the input reads as it did. -/
def satCoresUptoRow : OpenClaim := { program := "ytjbdiobnlmhidaa", sum := "1b251bab0f70b9236b832dcdbb27ef9eea17b2ba680de361677582ad79668146", func := "chcsolver/chcsolverlaw25.SatCores", spec := "satCores", unfollowed := true, recurses := true, apart := false, narrowed := true }
def SatCoresUptoSaid : Prop := satCoresUptoRow.holds Try.pinned (OpenSpec.upto satCoresSpec)

/-- 'chcsolverlaw25.SatPropagateMonotone', WHERE WHAT IT READS IS OF BULK AT MOST 1048576: true; the input reads as it did. -/
def satPropagateMonotoneUptoRow : OpenClaim := { program := "ytjbdiobnlmhidaa", sum := "1b251bab0f70b9236b832dcdbb27ef9eea17b2ba680de361677582ad79668146", func := "chcsolver/chcsolverlaw25.SatPropagateMonotone", spec := "satPropagateMonotone", unfollowed := true, recurses := true, apart := false, narrowed := true }
def SatPropagateMonotoneUptoSaid : Prop := satPropagateMonotoneUptoRow.holds Try.pinned (OpenSpec.upto satPropagateMonotoneSpec)

end Rows
end Go.Proofs.Ytjbdiobnlmhidaa
