/-
  No cell of these rows narrows 'for every input' (looked for: loops, veiled, ifaces, maps, wideKeys, modest, calm, conditions, laid).
  DERIVED. THE GIVEN ROWS OF THIS SEAT. 16 by the template 'for every input the law returns true; each argument reads behind the call as it read before'; 0 by the template 'total and deterministic' (their statements: YtimmglnbjgbbjaaTotals.lean).
  GIVEN WITH THE SEED: the statements are not yours to turn. If you find one false, say at which input.
  Laid BY PROGRAM, IN A SANDBOX (cutbox-rows.mjs): the forced cells as the released guide's own fill.sh prints them over the translation 3215935776831abf… (all of the seat's roots in one cut). By AI agents, Wed Nov 11 2026. No macro, syntax, notation, axiom, sorry.
-/
import Derived.Test.YtimmglnbjgbbjaaChecked
import GoSem.Claim
import GoSem.ClaimJoined
import GoSem.ClaimMapViews
import Derived.JoinedTies
import Derived.KernelRfl
namespace Go.Proofs.Ytimmglnbjgbbjaa
/- THE CELL 'sum', in the pinned program and in every row, IS THE sha256 OF THE DUMP (.gsa) THAT YtimmglnbjgbbjaaProg.lean LOADS. Nothing in Lean hashes anything: it is a label: what it is worth is what the hold of that sum in a sandbox is worth. -/
noncomputable def Try.pinned : Pinned := { name := "ytimmglnbjgbbjaa", sum := "3215935776831abf563c6f23f97345e838f0dbd5bf570fc6e6c0fed588b524a1", checked := Try.checked }
namespace Rows
def none {H : Type} : Left H := { results := [], args := [] }

/-- 'haymowlaw06.EvalLoops': WHATEVER THE INPUT: true; the input reads as it did. -/
def evalLoopsSpec : ChangeSpec := { name := "evalLoops", fn := fun _ => fun
  | [d1, d2] => { results := [.lit (.bool true)], args := [d1, d2] }
  | _ => none }
def evalLoopsRow : OpenClaim := { program := "ytimmglnbjgbbjaa", sum := "3215935776831abf563c6f23f97345e838f0dbd5bf570fc6e6c0fed588b524a1", func := "haymow/haymowlaw06.EvalLoops", spec := "evalLoops", unfollowed := true, recurses := true, apart := false }
def EvalLoopsSaid : Prop := evalLoopsRow.holds Try.pinned (OpenSpec.ofChange evalLoopsSpec)

/-- ITS FALSE NEIGHBOUR: 'it returns false'. Refute it at one input. -/
def evalLoopsWrong : ChangeSpec := { name := "evalLoops", fn := fun _ => fun
  | [d1, d2] => { results := [.lit (.bool false)], args := [d1, d2] }
  | _ => none }
def EvalLoopsWrongFalsely : Prop := evalLoopsRow.holds Try.pinned (OpenSpec.ofChange evalLoopsWrong)

/-- 'haymowlaw06.EvalDeep': WHATEVER THE INPUT: true; the input reads as it did. -/
def evalDeepSpec : ChangeSpec := { name := "evalDeep", fn := fun _ => fun
  | [d1, d2] => { results := [.lit (.bool true)], args := [d1, d2] }
  | _ => none }
def evalDeepRow : OpenClaim := { program := "ytimmglnbjgbbjaa", sum := "3215935776831abf563c6f23f97345e838f0dbd5bf570fc6e6c0fed588b524a1", func := "haymow/haymowlaw06.EvalDeep", spec := "evalDeep", unfollowed := true, recurses := true, apart := false }
def EvalDeepSaid : Prop := evalDeepRow.holds Try.pinned (OpenSpec.ofChange evalDeepSpec)

/-- ITS FALSE NEIGHBOUR: 'it returns false'. Refute it at one input. -/
def evalDeepWrong : ChangeSpec := { name := "evalDeep", fn := fun _ => fun
  | [d1, d2] => { results := [.lit (.bool false)], args := [d1, d2] }
  | _ => none }
def EvalDeepWrongFalsely : Prop := evalDeepRow.holds Try.pinned (OpenSpec.ofChange evalDeepWrong)

/-- 'haymowlaw06.EvalReckons': WHATEVER THE INPUT: true; the input reads as it did. -/
def evalReckonsSpec : ChangeSpec := { name := "evalReckons", fn := fun _ => fun
  | [d1, d2] => { results := [.lit (.bool true)], args := [d1, d2] }
  | _ => none }
def evalReckonsRow : OpenClaim := { program := "ytimmglnbjgbbjaa", sum := "3215935776831abf563c6f23f97345e838f0dbd5bf570fc6e6c0fed588b524a1", func := "haymow/haymowlaw06.EvalReckons", spec := "evalReckons", unfollowed := true, recurses := true, apart := false }
def EvalReckonsSaid : Prop := evalReckonsRow.holds Try.pinned (OpenSpec.ofChange evalReckonsSpec)

/-- ITS FALSE NEIGHBOUR: 'it returns false'. Refute it at one input. -/
def evalReckonsWrong : ChangeSpec := { name := "evalReckons", fn := fun _ => fun
  | [d1, d2] => { results := [.lit (.bool false)], args := [d1, d2] }
  | _ => none }
def EvalReckonsWrongFalsely : Prop := evalReckonsRow.holds Try.pinned (OpenSpec.ofChange evalReckonsWrong)

/-- 'haymowlaw06.EvalTouches': WHATEVER THE INPUT: true; the input reads as it did. -/
def evalTouchesSpec : ChangeSpec := { name := "evalTouches", fn := fun _ => fun
  | [d1, d2, d3] => { results := [.lit (.bool true)], args := [d1, d2, d3] }
  | _ => none }
def evalTouchesRow : OpenClaim := { program := "ytimmglnbjgbbjaa", sum := "3215935776831abf563c6f23f97345e838f0dbd5bf570fc6e6c0fed588b524a1", func := "haymow/haymowlaw06.EvalTouches", spec := "evalTouches", unfollowed := true, recurses := true, apart := false }
def EvalTouchesSaid : Prop := evalTouchesRow.holds Try.pinned (OpenSpec.ofChange evalTouchesSpec)

/-- ITS FALSE NEIGHBOUR: 'it returns false'. Refute it at one input. -/
def evalTouchesWrong : ChangeSpec := { name := "evalTouches", fn := fun _ => fun
  | [d1, d2, d3] => { results := [.lit (.bool false)], args := [d1, d2, d3] }
  | _ => none }
def EvalTouchesWrongFalsely : Prop := evalTouchesRow.holds Try.pinned (OpenSpec.ofChange evalTouchesWrong)

/-- 'haymowlaw12.FrameExecs': WHATEVER THE INPUT: true; the input reads as it did. -/
def frameExecsSpec : ChangeSpec := { name := "frameExecs", fn := fun _ => fun
  | [d] => { results := [.lit (.bool true)], args := [d] }
  | _ => none }
def frameExecsRow : OpenClaim := { program := "ytimmglnbjgbbjaa", sum := "3215935776831abf563c6f23f97345e838f0dbd5bf570fc6e6c0fed588b524a1", func := "haymow/haymowlaw12.FrameExecs", spec := "frameExecs", unfollowed := true, recurses := true, apart := false }
def FrameExecsSaid : Prop := frameExecsRow.holds Try.pinned (OpenSpec.ofChange frameExecsSpec)

/-- ITS FALSE NEIGHBOUR: 'it returns false'. Refute it at one input. -/
def frameExecsWrong : ChangeSpec := { name := "frameExecs", fn := fun _ => fun
  | [d] => { results := [.lit (.bool false)], args := [d] }
  | _ => none }
def FrameExecsWrongFalsely : Prop := frameExecsRow.holds Try.pinned (OpenSpec.ofChange frameExecsWrong)

/-- 'haymowlaw12.FrameNew': WHATEVER THE INPUT: true; the input reads as it did. -/
def frameNewSpec : ChangeSpec := { name := "frameNew", fn := fun _ => fun
  | [d] => { results := [.lit (.bool true)], args := [d] }
  | _ => none }
def frameNewRow : OpenClaim := { program := "ytimmglnbjgbbjaa", sum := "3215935776831abf563c6f23f97345e838f0dbd5bf570fc6e6c0fed588b524a1", func := "haymow/haymowlaw12.FrameNew", spec := "frameNew", unfollowed := true, recurses := true, apart := false }
def FrameNewSaid : Prop := frameNewRow.holds Try.pinned (OpenSpec.ofChange frameNewSpec)

/-- ITS FALSE NEIGHBOUR: 'it returns false'. Refute it at one input. -/
def frameNewWrong : ChangeSpec := { name := "frameNew", fn := fun _ => fun
  | [d] => { results := [.lit (.bool false)], args := [d] }
  | _ => none }
def FrameNewWrongFalsely : Prop := frameNewRow.holds Try.pinned (OpenSpec.ofChange frameNewWrong)

/-- 'haymowlaw12.FrameCounts': WHATEVER THE INPUT: true; the input reads as it did. -/
def frameCountsSpec : ChangeSpec := { name := "frameCounts", fn := fun _ => fun
  | [d] => { results := [.lit (.bool true)], args := [d] }
  | _ => none }
def frameCountsRow : OpenClaim := { program := "ytimmglnbjgbbjaa", sum := "3215935776831abf563c6f23f97345e838f0dbd5bf570fc6e6c0fed588b524a1", func := "haymow/haymowlaw12.FrameCounts", spec := "frameCounts", unfollowed := true, recurses := true, apart := false }
def FrameCountsSaid : Prop := frameCountsRow.holds Try.pinned (OpenSpec.ofChange frameCountsSpec)

/-- ITS FALSE NEIGHBOUR: 'it returns false'. Refute it at one input. -/
def frameCountsWrong : ChangeSpec := { name := "frameCounts", fn := fun _ => fun
  | [d] => { results := [.lit (.bool false)], args := [d] }
  | _ => none }
def FrameCountsWrongFalsely : Prop := frameCountsRow.holds Try.pinned (OpenSpec.ofChange frameCountsWrong)

/-- 'haymowlaw12.FrameJumps': WHATEVER THE INPUT: true; the input reads as it did. -/
def frameJumpsSpec : ChangeSpec := { name := "frameJumps", fn := fun _ => fun
  | [d] => { results := [.lit (.bool true)], args := [d] }
  | _ => none }
def frameJumpsRow : OpenClaim := { program := "ytimmglnbjgbbjaa", sum := "3215935776831abf563c6f23f97345e838f0dbd5bf570fc6e6c0fed588b524a1", func := "haymow/haymowlaw12.FrameJumps", spec := "frameJumps", unfollowed := true, recurses := true, apart := false }
def FrameJumpsSaid : Prop := frameJumpsRow.holds Try.pinned (OpenSpec.ofChange frameJumpsSpec)

/-- ITS FALSE NEIGHBOUR: 'it returns false'. Refute it at one input. -/
def frameJumpsWrong : ChangeSpec := { name := "frameJumps", fn := fun _ => fun
  | [d] => { results := [.lit (.bool false)], args := [d] }
  | _ => none }
def FrameJumpsWrongFalsely : Prop := frameJumpsRow.holds Try.pinned (OpenSpec.ofChange frameJumpsWrong)

/-- 'haymowlaw12.FrameBegins': WHATEVER THE INPUT: true; the input reads as it did. -/
def frameBeginsSpec : ChangeSpec := { name := "frameBegins", fn := fun _ => fun
  | [d] => { results := [.lit (.bool true)], args := [d] }
  | _ => none }
def frameBeginsRow : OpenClaim := { program := "ytimmglnbjgbbjaa", sum := "3215935776831abf563c6f23f97345e838f0dbd5bf570fc6e6c0fed588b524a1", func := "haymow/haymowlaw12.FrameBegins", spec := "frameBegins", unfollowed := true, recurses := true, apart := false }
def FrameBeginsSaid : Prop := frameBeginsRow.holds Try.pinned (OpenSpec.ofChange frameBeginsSpec)

/-- ITS FALSE NEIGHBOUR: 'it returns false'. Refute it at one input. -/
def frameBeginsWrong : ChangeSpec := { name := "frameBegins", fn := fun _ => fun
  | [d] => { results := [.lit (.bool false)], args := [d] }
  | _ => none }
def FrameBeginsWrongFalsely : Prop := frameBeginsRow.holds Try.pinned (OpenSpec.ofChange frameBeginsWrong)

/-- 'haymowlaw08.UnfoldTells': WHATEVER THE INPUT: true; the input reads as it did. -/
def unfoldTellsSpec : ChangeSpec := { name := "unfoldTells", fn := fun _ => fun
  | [d1, d2] => { results := [.lit (.bool true)], args := [d1, d2] }
  | _ => none }
def unfoldTellsRow : OpenClaim := { program := "ytimmglnbjgbbjaa", sum := "3215935776831abf563c6f23f97345e838f0dbd5bf570fc6e6c0fed588b524a1", func := "haymow/haymowlaw08.UnfoldTells", spec := "unfoldTells", unfollowed := true, recurses := true, apart := false }
def UnfoldTellsSaid : Prop := unfoldTellsRow.holds Try.pinned (OpenSpec.ofChange unfoldTellsSpec)

/-- ITS FALSE NEIGHBOUR: 'it returns false'. Refute it at one input. -/
def unfoldTellsWrong : ChangeSpec := { name := "unfoldTells", fn := fun _ => fun
  | [d1, d2] => { results := [.lit (.bool false)], args := [d1, d2] }
  | _ => none }
def UnfoldTellsWrongFalsely : Prop := unfoldTellsRow.holds Try.pinned (OpenSpec.ofChange unfoldTellsWrong)

/-- 'haymowlaw08.UnfoldOther': WHATEVER THE INPUT: true; the input reads as it did. -/
def unfoldOtherSpec : ChangeSpec := { name := "unfoldOther", fn := fun _ => fun
  | [d1, d2] => { results := [.lit (.bool true)], args := [d1, d2] }
  | _ => none }
def unfoldOtherRow : OpenClaim := { program := "ytimmglnbjgbbjaa", sum := "3215935776831abf563c6f23f97345e838f0dbd5bf570fc6e6c0fed588b524a1", func := "haymow/haymowlaw08.UnfoldOther", spec := "unfoldOther", unfollowed := true, recurses := true, apart := false }
def UnfoldOtherSaid : Prop := unfoldOtherRow.holds Try.pinned (OpenSpec.ofChange unfoldOtherSpec)

/-- ITS FALSE NEIGHBOUR: 'it returns false'. Refute it at one input. -/
def unfoldOtherWrong : ChangeSpec := { name := "unfoldOther", fn := fun _ => fun
  | [d1, d2] => { results := [.lit (.bool false)], args := [d1, d2] }
  | _ => none }
def UnfoldOtherWrongFalsely : Prop := unfoldOtherRow.holds Try.pinned (OpenSpec.ofChange unfoldOtherWrong)

/-- 'haymowlaw08.UnfoldNeeds': WHATEVER THE INPUT: true; the input reads as it did. -/
def unfoldNeedsSpec : ChangeSpec := { name := "unfoldNeeds", fn := fun _ => fun
  | [d] => { results := [.lit (.bool true)], args := [d] }
  | _ => none }
def unfoldNeedsRow : OpenClaim := { program := "ytimmglnbjgbbjaa", sum := "3215935776831abf563c6f23f97345e838f0dbd5bf570fc6e6c0fed588b524a1", func := "haymow/haymowlaw08.UnfoldNeeds", spec := "unfoldNeeds", unfollowed := true, recurses := true, apart := false }
def UnfoldNeedsSaid : Prop := unfoldNeedsRow.holds Try.pinned (OpenSpec.ofChange unfoldNeedsSpec)

/-- ITS FALSE NEIGHBOUR: 'it returns false'. Refute it at one input. -/
def unfoldNeedsWrong : ChangeSpec := { name := "unfoldNeeds", fn := fun _ => fun
  | [d] => { results := [.lit (.bool false)], args := [d] }
  | _ => none }
def UnfoldNeedsWrongFalsely : Prop := unfoldNeedsRow.holds Try.pinned (OpenSpec.ofChange unfoldNeedsWrong)

/-- 'haymowlaw12.FrameDrives': WHATEVER THE INPUT: true; the input reads as it did. -/
def frameDrivesSpec : ChangeSpec := { name := "frameDrives", fn := fun _ => fun
  | [d] => { results := [.lit (.bool true)], args := [d] }
  | _ => none }
def frameDrivesRow : OpenClaim := { program := "ytimmglnbjgbbjaa", sum := "3215935776831abf563c6f23f97345e838f0dbd5bf570fc6e6c0fed588b524a1", func := "haymow/haymowlaw12.FrameDrives", spec := "frameDrives", unfollowed := true, recurses := true, apart := false }
def FrameDrivesSaid : Prop := frameDrivesRow.holds Try.pinned (OpenSpec.ofChange frameDrivesSpec)

/-- ITS FALSE NEIGHBOUR: 'it returns false'. Refute it at one input. -/
def frameDrivesWrong : ChangeSpec := { name := "frameDrives", fn := fun _ => fun
  | [d] => { results := [.lit (.bool false)], args := [d] }
  | _ => none }
def FrameDrivesWrongFalsely : Prop := frameDrivesRow.holds Try.pinned (OpenSpec.ofChange frameDrivesWrong)

/-- 'haymowlaw08.UnfoldMerges': WHATEVER THE INPUT: true; the input reads as it did. -/
def unfoldMergesSpec : ChangeSpec := { name := "unfoldMerges", fn := fun _ => fun
  | [d] => { results := [.lit (.bool true)], args := [d] }
  | _ => none }
def unfoldMergesRow : OpenClaim := { program := "ytimmglnbjgbbjaa", sum := "3215935776831abf563c6f23f97345e838f0dbd5bf570fc6e6c0fed588b524a1", func := "haymow/haymowlaw08.UnfoldMerges", spec := "unfoldMerges", unfollowed := true, recurses := true, apart := false }
def UnfoldMergesSaid : Prop := unfoldMergesRow.holds Try.pinned (OpenSpec.ofChange unfoldMergesSpec)

/-- ITS FALSE NEIGHBOUR: 'it returns false'. Refute it at one input. -/
def unfoldMergesWrong : ChangeSpec := { name := "unfoldMerges", fn := fun _ => fun
  | [d] => { results := [.lit (.bool false)], args := [d] }
  | _ => none }
def UnfoldMergesWrongFalsely : Prop := unfoldMergesRow.holds Try.pinned (OpenSpec.ofChange unfoldMergesWrong)

/-- 'haymowlaw08.UnfoldAlone': WHATEVER THE INPUT: true; the input reads as it did. -/
def unfoldAloneSpec : ChangeSpec := { name := "unfoldAlone", fn := fun _ => fun
  | [d] => { results := [.lit (.bool true)], args := [d] }
  | _ => none }
def unfoldAloneRow : OpenClaim := { program := "ytimmglnbjgbbjaa", sum := "3215935776831abf563c6f23f97345e838f0dbd5bf570fc6e6c0fed588b524a1", func := "haymow/haymowlaw08.UnfoldAlone", spec := "unfoldAlone", unfollowed := true, recurses := true, apart := false }
def UnfoldAloneSaid : Prop := unfoldAloneRow.holds Try.pinned (OpenSpec.ofChange unfoldAloneSpec)

/-- ITS FALSE NEIGHBOUR: 'it returns false'. Refute it at one input. -/
def unfoldAloneWrong : ChangeSpec := { name := "unfoldAlone", fn := fun _ => fun
  | [d] => { results := [.lit (.bool false)], args := [d] }
  | _ => none }
def UnfoldAloneWrongFalsely : Prop := unfoldAloneRow.holds Try.pinned (OpenSpec.ofChange unfoldAloneWrong)

/-- 'haymowlaw08.UnfoldCovers': WHATEVER THE INPUT: true; the input reads as it did. -/
def unfoldCoversSpec : ChangeSpec := { name := "unfoldCovers", fn := fun _ => fun
  | [d] => { results := [.lit (.bool true)], args := [d] }
  | _ => none }
def unfoldCoversRow : OpenClaim := { program := "ytimmglnbjgbbjaa", sum := "3215935776831abf563c6f23f97345e838f0dbd5bf570fc6e6c0fed588b524a1", func := "haymow/haymowlaw08.UnfoldCovers", spec := "unfoldCovers", unfollowed := true, recurses := true, apart := false }
def UnfoldCoversSaid : Prop := unfoldCoversRow.holds Try.pinned (OpenSpec.ofChange unfoldCoversSpec)

/-- ITS FALSE NEIGHBOUR: 'it returns false'. Refute it at one input. -/
def unfoldCoversWrong : ChangeSpec := { name := "unfoldCovers", fn := fun _ => fun
  | [d] => { results := [.lit (.bool false)], args := [d] }
  | _ => none }
def UnfoldCoversWrongFalsely : Prop := unfoldCoversRow.holds Try.pinned (OpenSpec.ofChange unfoldCoversWrong)

/- THE SECOND FORM. 'bulk': how many values and letters a reading holds, each counted each time it is reached (what is shared counts as often as it is met; a slice's spare places count too). A statement '..UptoSaid' is the law's where the arguments, and the package variables that the reading takes, are together of bulk at most 1048576: NARROWER than '..Said'. Prove '..Said' where nothing that the law and all that it calls make is longer than what came in: it says more and counts as full. Else prove '..UptoSaid'. A law counts once. -/
mutual
def uptoBulk {H : Type} : DataW H → Nat
  | .lit (.string bytes) => bytes.length + 1
  | .lit _ => 1
  | .nil => 1
  | .ptr d => uptoBulk d + 1
  | .slice elems spare => uptoBulkAll elems + uptoBulkAll spare + 1
  | .agg parts => uptoBulkAll parts + 1
  | .iface _ d => uptoBulk d + 1
  | .map entries => uptoBulkEntries entries + 1
  | .held _ => 1
def uptoBulkAll {H : Type} : List (DataW H) → Nat
  | [] => 0
  | d :: r => uptoBulk d + uptoBulkAll r
def uptoBulkEntries {H : Type} : List (Lit × DataW H) → Nat
  | [] => 0
  | x :: r => uptoBulkEntry x + uptoBulkEntries r
def uptoBulkEntry {H : Type} : Lit × DataW H → Nat
  | (.string bytes, d) => bytes.length + uptoBulk d + 1
  | (_, d) => uptoBulk d + 1
 end
def uptoSmall : (H : Type) → List (DataW H) → Bool := fun _ ds => decide (uptoBulkAll ds ≤ 1048576)
def OpenSpec.upto (s : _root_.Go.ChangeSpec) : _root_.Go.OpenSpec := { _root_.Go.OpenSpec.ofChange s with cond := some uptoSmall }

/-- 'haymowlaw06.EvalLoops', WHERE WHAT IT READS IS OF BULK AT MOST 1048576: true; the input reads as it did. -/
def evalLoopsUptoRow : OpenClaim := { program := "ytimmglnbjgbbjaa", sum := "3215935776831abf563c6f23f97345e838f0dbd5bf570fc6e6c0fed588b524a1", func := "haymow/haymowlaw06.EvalLoops", spec := "evalLoops", unfollowed := true, recurses := true, apart := false, narrowed := true }
def EvalLoopsUptoSaid : Prop := evalLoopsUptoRow.holds Try.pinned (OpenSpec.upto evalLoopsSpec)

/-- 'haymowlaw06.EvalDeep', WHERE WHAT IT READS IS OF BULK AT MOST 1048576: true; the input reads as it did. -/
def evalDeepUptoRow : OpenClaim := { program := "ytimmglnbjgbbjaa", sum := "3215935776831abf563c6f23f97345e838f0dbd5bf570fc6e6c0fed588b524a1", func := "haymow/haymowlaw06.EvalDeep", spec := "evalDeep", unfollowed := true, recurses := true, apart := false, narrowed := true }
def EvalDeepUptoSaid : Prop := evalDeepUptoRow.holds Try.pinned (OpenSpec.upto evalDeepSpec)

/-- 'haymowlaw06.EvalReckons', WHERE WHAT IT READS IS OF BULK AT MOST 1048576: true; the input reads as it did. -/
def evalReckonsUptoRow : OpenClaim := { program := "ytimmglnbjgbbjaa", sum := "3215935776831abf563c6f23f97345e838f0dbd5bf570fc6e6c0fed588b524a1", func := "haymow/haymowlaw06.EvalReckons", spec := "evalReckons", unfollowed := true, recurses := true, apart := false, narrowed := true }
def EvalReckonsUptoSaid : Prop := evalReckonsUptoRow.holds Try.pinned (OpenSpec.upto evalReckonsSpec)

/-- 'haymowlaw06.EvalTouches', WHERE WHAT IT READS IS OF BULK AT MOST 1048576: true; the input reads as it did. -/
def evalTouchesUptoRow : OpenClaim := { program := "ytimmglnbjgbbjaa", sum := "3215935776831abf563c6f23f97345e838f0dbd5bf570fc6e6c0fed588b524a1", func := "haymow/haymowlaw06.EvalTouches", spec := "evalTouches", unfollowed := true, recurses := true, apart := false, narrowed := true }
def EvalTouchesUptoSaid : Prop := evalTouchesUptoRow.holds Try.pinned (OpenSpec.upto evalTouchesSpec)

/-- 'haymowlaw12.FrameExecs', WHERE WHAT IT READS IS OF BULK AT MOST 1048576: true; the input reads as it did. -/
def frameExecsUptoRow : OpenClaim := { program := "ytimmglnbjgbbjaa", sum := "3215935776831abf563c6f23f97345e838f0dbd5bf570fc6e6c0fed588b524a1", func := "haymow/haymowlaw12.FrameExecs", spec := "frameExecs", unfollowed := true, recurses := true, apart := false, narrowed := true }
def FrameExecsUptoSaid : Prop := frameExecsUptoRow.holds Try.pinned (OpenSpec.upto frameExecsSpec)

/-- 'haymowlaw12.FrameNew', WHERE WHAT IT READS IS OF BULK AT MOST 1048576: true; the input reads as it did. -/
def frameNewUptoRow : OpenClaim := { program := "ytimmglnbjgbbjaa", sum := "3215935776831abf563c6f23f97345e838f0dbd5bf570fc6e6c0fed588b524a1", func := "haymow/haymowlaw12.FrameNew", spec := "frameNew", unfollowed := true, recurses := true, apart := false, narrowed := true }
def FrameNewUptoSaid : Prop := frameNewUptoRow.holds Try.pinned (OpenSpec.upto frameNewSpec)

/-- 'haymowlaw12.FrameCounts', WHERE WHAT IT READS IS OF BULK AT MOST 1048576: true; the input reads as it did. -/
def frameCountsUptoRow : OpenClaim := { program := "ytimmglnbjgbbjaa", sum := "3215935776831abf563c6f23f97345e838f0dbd5bf570fc6e6c0fed588b524a1", func := "haymow/haymowlaw12.FrameCounts", spec := "frameCounts", unfollowed := true, recurses := true, apart := false, narrowed := true }
def FrameCountsUptoSaid : Prop := frameCountsUptoRow.holds Try.pinned (OpenSpec.upto frameCountsSpec)

/-- 'haymowlaw12.FrameJumps', WHERE WHAT IT READS IS OF BULK AT MOST 1048576: true; the input reads as it did. -/
def frameJumpsUptoRow : OpenClaim := { program := "ytimmglnbjgbbjaa", sum := "3215935776831abf563c6f23f97345e838f0dbd5bf570fc6e6c0fed588b524a1", func := "haymow/haymowlaw12.FrameJumps", spec := "frameJumps", unfollowed := true, recurses := true, apart := false, narrowed := true }
def FrameJumpsUptoSaid : Prop := frameJumpsUptoRow.holds Try.pinned (OpenSpec.upto frameJumpsSpec)

/-- 'haymowlaw12.FrameBegins', WHERE WHAT IT READS IS OF BULK AT MOST 1048576: true; the input reads as it did. -/
def frameBeginsUptoRow : OpenClaim := { program := "ytimmglnbjgbbjaa", sum := "3215935776831abf563c6f23f97345e838f0dbd5bf570fc6e6c0fed588b524a1", func := "haymow/haymowlaw12.FrameBegins", spec := "frameBegins", unfollowed := true, recurses := true, apart := false, narrowed := true }
def FrameBeginsUptoSaid : Prop := frameBeginsUptoRow.holds Try.pinned (OpenSpec.upto frameBeginsSpec)

/-- 'haymowlaw08.UnfoldTells', WHERE WHAT IT READS IS OF BULK AT MOST 1048576: true; the input reads as it did. -/
def unfoldTellsUptoRow : OpenClaim := { program := "ytimmglnbjgbbjaa", sum := "3215935776831abf563c6f23f97345e838f0dbd5bf570fc6e6c0fed588b524a1", func := "haymow/haymowlaw08.UnfoldTells", spec := "unfoldTells", unfollowed := true, recurses := true, apart := false, narrowed := true }
def UnfoldTellsUptoSaid : Prop := unfoldTellsUptoRow.holds Try.pinned (OpenSpec.upto unfoldTellsSpec)

/-- 'haymowlaw08.UnfoldOther', WHERE WHAT IT READS IS OF BULK AT MOST 1048576: true; the input reads as it did. -/
def unfoldOtherUptoRow : OpenClaim := { program := "ytimmglnbjgbbjaa", sum := "3215935776831abf563c6f23f97345e838f0dbd5bf570fc6e6c0fed588b524a1", func := "haymow/haymowlaw08.UnfoldOther", spec := "unfoldOther", unfollowed := true, recurses := true, apart := false, narrowed := true }
def UnfoldOtherUptoSaid : Prop := unfoldOtherUptoRow.holds Try.pinned (OpenSpec.upto unfoldOtherSpec)

/-- 'haymowlaw08.UnfoldNeeds', WHERE WHAT IT READS IS OF BULK AT MOST 1048576: true; the input reads as it did. -/
def unfoldNeedsUptoRow : OpenClaim := { program := "ytimmglnbjgbbjaa", sum := "3215935776831abf563c6f23f97345e838f0dbd5bf570fc6e6c0fed588b524a1", func := "haymow/haymowlaw08.UnfoldNeeds", spec := "unfoldNeeds", unfollowed := true, recurses := true, apart := false, narrowed := true }
def UnfoldNeedsUptoSaid : Prop := unfoldNeedsUptoRow.holds Try.pinned (OpenSpec.upto unfoldNeedsSpec)

/-- 'haymowlaw12.FrameDrives', WHERE WHAT IT READS IS OF BULK AT MOST 1048576: true; the input reads as it did. -/
def frameDrivesUptoRow : OpenClaim := { program := "ytimmglnbjgbbjaa", sum := "3215935776831abf563c6f23f97345e838f0dbd5bf570fc6e6c0fed588b524a1", func := "haymow/haymowlaw12.FrameDrives", spec := "frameDrives", unfollowed := true, recurses := true, apart := false, narrowed := true }
def FrameDrivesUptoSaid : Prop := frameDrivesUptoRow.holds Try.pinned (OpenSpec.upto frameDrivesSpec)

/-- 'haymowlaw08.UnfoldMerges', WHERE WHAT IT READS IS OF BULK AT MOST 1048576: true; the input reads as it did. -/
def unfoldMergesUptoRow : OpenClaim := { program := "ytimmglnbjgbbjaa", sum := "3215935776831abf563c6f23f97345e838f0dbd5bf570fc6e6c0fed588b524a1", func := "haymow/haymowlaw08.UnfoldMerges", spec := "unfoldMerges", unfollowed := true, recurses := true, apart := false, narrowed := true }
def UnfoldMergesUptoSaid : Prop := unfoldMergesUptoRow.holds Try.pinned (OpenSpec.upto unfoldMergesSpec)

/-- 'haymowlaw08.UnfoldAlone', WHERE WHAT IT READS IS OF BULK AT MOST 1048576: true; the input reads as it did. -/
def unfoldAloneUptoRow : OpenClaim := { program := "ytimmglnbjgbbjaa", sum := "3215935776831abf563c6f23f97345e838f0dbd5bf570fc6e6c0fed588b524a1", func := "haymow/haymowlaw08.UnfoldAlone", spec := "unfoldAlone", unfollowed := true, recurses := true, apart := false, narrowed := true }
def UnfoldAloneUptoSaid : Prop := unfoldAloneUptoRow.holds Try.pinned (OpenSpec.upto unfoldAloneSpec)

/-- 'haymowlaw08.UnfoldCovers', WHERE WHAT IT READS IS OF BULK AT MOST 1048576: true; the input reads as it did. -/
def unfoldCoversUptoRow : OpenClaim := { program := "ytimmglnbjgbbjaa", sum := "3215935776831abf563c6f23f97345e838f0dbd5bf570fc6e6c0fed588b524a1", func := "haymow/haymowlaw08.UnfoldCovers", spec := "unfoldCovers", unfollowed := true, recurses := true, apart := false, narrowed := true }
def UnfoldCoversUptoSaid : Prop := unfoldCoversUptoRow.holds Try.pinned (OpenSpec.upto unfoldCoversSpec)

end Rows
end Go.Proofs.Ytimmglnbjgbbjaa
