/-
  No cell of these rows narrows 'for every input' (looked for: loops, veiled, ifaces, maps, wideKeys, modest, calm, conditions, laid).
  DERIVED. THE GIVEN ROWS OF THIS SEAT. 21 by the template 'for every input the law returns true; each argument reads behind the call as it read before'; 0 by the template 'total and deterministic' (their statements: YtmkpbbdocndfbaaTotals.lean).
  GIVEN WITH THE SEED: the statements are not yours to turn. If you find one false, say at which input.
  Laid BY PROGRAM, IN A SANDBOX (cutbox-rows.mjs): the forced cells as the released guide's own fill.sh prints them over the translation 1c3d40bd983e23de… (all of the seat's roots in one cut). By AI agents, Wed Nov 11 2026. No macro, syntax, notation, axiom, sorry.
-/
import Derived.Test.YtmkpbbdocndfbaaChecked
import GoSem.Claim
import GoSem.ClaimJoined
import GoSem.ClaimMapViews
import Derived.JoinedTies
import Derived.KernelRfl
namespace Go.Proofs.Ytmkpbbdocndfbaa
/- THE CELL 'sum', in the pinned program and in every row, IS THE sha256 OF THE DUMP (.gsa) THAT YtmkpbbdocndfbaaProg.lean LOADS. Nothing in Lean hashes anything: it is a label: what it is worth is what the hold of that sum in a sandbox is worth. -/
noncomputable def Try.pinned : Pinned := { name := "ytmkpbbdocndfbaa", sum := "1c3d40bd983e23dea617c85bfe41fb340944cc65cceb7a1aae2930cd6a8ecbb0", checked := Try.checked }
namespace Rows
def none {H : Type} : Left H := { results := [], args := [] }

/-- 'empennagelaw10.LanePlays': WHATEVER THE INPUT: true; the input reads as it did. -/
def lanePlaysSpec : ChangeSpec := { name := "lanePlays", fn := fun _ => fun
  | [d1, d2, d3] => { results := [.lit (.bool true)], args := [d1, d2, d3] }
  | _ => none }
def lanePlaysRow : OpenClaim := { program := "ytmkpbbdocndfbaa", sum := "1c3d40bd983e23dea617c85bfe41fb340944cc65cceb7a1aae2930cd6a8ecbb0", func := "empennage/empennagelaw10.LanePlays", spec := "lanePlays", unfollowed := true, recurses := true, apart := false }
def LanePlaysSaid : Prop := lanePlaysRow.holds Try.pinned (OpenSpec.ofChange lanePlaysSpec)

/-- ITS FALSE NEIGHBOUR: 'it returns false'. Refute it at one input. -/
def lanePlaysWrong : ChangeSpec := { name := "lanePlays", fn := fun _ => fun
  | [d1, d2, d3] => { results := [.lit (.bool false)], args := [d1, d2, d3] }
  | _ => none }
def LanePlaysWrongFalsely : Prop := lanePlaysRow.holds Try.pinned (OpenSpec.ofChange lanePlaysWrong)

/-- 'empennagelaw10.LaneOwns': WHATEVER THE INPUT: true; the input reads as it did. -/
def laneOwnsSpec : ChangeSpec := { name := "laneOwns", fn := fun _ => fun
  | [d] => { results := [.lit (.bool true)], args := [d] }
  | _ => none }
def laneOwnsRow : OpenClaim := { program := "ytmkpbbdocndfbaa", sum := "1c3d40bd983e23dea617c85bfe41fb340944cc65cceb7a1aae2930cd6a8ecbb0", func := "empennage/empennagelaw10.LaneOwns", spec := "laneOwns", unfollowed := true, recurses := true, apart := false }
def LaneOwnsSaid : Prop := laneOwnsRow.holds Try.pinned (OpenSpec.ofChange laneOwnsSpec)

/-- ITS FALSE NEIGHBOUR: 'it returns false'. Refute it at one input. -/
def laneOwnsWrong : ChangeSpec := { name := "laneOwns", fn := fun _ => fun
  | [d] => { results := [.lit (.bool false)], args := [d] }
  | _ => none }
def LaneOwnsWrongFalsely : Prop := laneOwnsRow.holds Try.pinned (OpenSpec.ofChange laneOwnsWrong)

/-- 'empennagelaw10.LaneSame': WHATEVER THE INPUT: true; the input reads as it did. -/
def laneSameSpec : ChangeSpec := { name := "laneSame", fn := fun _ => fun
  | [d1, d2, d3] => { results := [.lit (.bool true)], args := [d1, d2, d3] }
  | _ => none }
def laneSameRow : OpenClaim := { program := "ytmkpbbdocndfbaa", sum := "1c3d40bd983e23dea617c85bfe41fb340944cc65cceb7a1aae2930cd6a8ecbb0", func := "empennage/empennagelaw10.LaneSame", spec := "laneSame", unfollowed := true, recurses := true, apart := false }
def LaneSameSaid : Prop := laneSameRow.holds Try.pinned (OpenSpec.ofChange laneSameSpec)

/-- ITS FALSE NEIGHBOUR: 'it returns false'. Refute it at one input. -/
def laneSameWrong : ChangeSpec := { name := "laneSame", fn := fun _ => fun
  | [d1, d2, d3] => { results := [.lit (.bool false)], args := [d1, d2, d3] }
  | _ => none }
def LaneSameWrongFalsely : Prop := laneSameRow.holds Try.pinned (OpenSpec.ofChange laneSameWrong)

/-- 'empennagelaw12.GateJudges': WHATEVER THE INPUT: true; the input reads as it did. -/
def gateJudgesSpec : ChangeSpec := { name := "gateJudges", fn := fun _ => fun
  | [d1, d2] => { results := [.lit (.bool true)], args := [d1, d2] }
  | _ => none }
def gateJudgesRow : OpenClaim := { program := "ytmkpbbdocndfbaa", sum := "1c3d40bd983e23dea617c85bfe41fb340944cc65cceb7a1aae2930cd6a8ecbb0", func := "empennage/empennagelaw12.GateJudges", spec := "gateJudges", unfollowed := true, recurses := true, apart := false }
def GateJudgesSaid : Prop := gateJudgesRow.holds Try.pinned (OpenSpec.ofChange gateJudgesSpec)

/-- ITS FALSE NEIGHBOUR: 'it returns false'. Refute it at one input. -/
def gateJudgesWrong : ChangeSpec := { name := "gateJudges", fn := fun _ => fun
  | [d1, d2] => { results := [.lit (.bool false)], args := [d1, d2] }
  | _ => none }
def GateJudgesWrongFalsely : Prop := gateJudgesRow.holds Try.pinned (OpenSpec.ofChange gateJudgesWrong)

/-- 'empennagelaw12.GateLate': WHATEVER THE INPUT: true; the input reads as it did. -/
def gateLateSpec : ChangeSpec := { name := "gateLate", fn := fun _ => fun
  | [d1, d2, d3] => { results := [.lit (.bool true)], args := [d1, d2, d3] }
  | _ => none }
def gateLateRow : OpenClaim := { program := "ytmkpbbdocndfbaa", sum := "1c3d40bd983e23dea617c85bfe41fb340944cc65cceb7a1aae2930cd6a8ecbb0", func := "empennage/empennagelaw12.GateLate", spec := "gateLate", unfollowed := true, recurses := true, apart := false }
def GateLateSaid : Prop := gateLateRow.holds Try.pinned (OpenSpec.ofChange gateLateSpec)

/-- ITS FALSE NEIGHBOUR: 'it returns false'. Refute it at one input. -/
def gateLateWrong : ChangeSpec := { name := "gateLate", fn := fun _ => fun
  | [d1, d2, d3] => { results := [.lit (.bool false)], args := [d1, d2, d3] }
  | _ => none }
def GateLateWrongFalsely : Prop := gateLateRow.holds Try.pinned (OpenSpec.ofChange gateLateWrong)

/-- 'empennagelaw12.GateDoors': WHATEVER THE INPUT: true; the input reads as it did. -/
def gateDoorsSpec : ChangeSpec := { name := "gateDoors", fn := fun _ => fun
  | [d1, d2] => { results := [.lit (.bool true)], args := [d1, d2] }
  | _ => none }
def gateDoorsRow : OpenClaim := { program := "ytmkpbbdocndfbaa", sum := "1c3d40bd983e23dea617c85bfe41fb340944cc65cceb7a1aae2930cd6a8ecbb0", func := "empennage/empennagelaw12.GateDoors", spec := "gateDoors", unfollowed := true, recurses := true, apart := false }
def GateDoorsSaid : Prop := gateDoorsRow.holds Try.pinned (OpenSpec.ofChange gateDoorsSpec)

/-- ITS FALSE NEIGHBOUR: 'it returns false'. Refute it at one input. -/
def gateDoorsWrong : ChangeSpec := { name := "gateDoors", fn := fun _ => fun
  | [d1, d2] => { results := [.lit (.bool false)], args := [d1, d2] }
  | _ => none }
def GateDoorsWrongFalsely : Prop := gateDoorsRow.holds Try.pinned (OpenSpec.ofChange gateDoorsWrong)

/-- 'empennagelaw12.GateRates': WHATEVER THE INPUT: true; the input reads as it did. -/
def gateRatesSpec : ChangeSpec := { name := "gateRates", fn := fun _ => fun
  | [d1, d2] => { results := [.lit (.bool true)], args := [d1, d2] }
  | _ => none }
def gateRatesRow : OpenClaim := { program := "ytmkpbbdocndfbaa", sum := "1c3d40bd983e23dea617c85bfe41fb340944cc65cceb7a1aae2930cd6a8ecbb0", func := "empennage/empennagelaw12.GateRates", spec := "gateRates", unfollowed := true, recurses := true, apart := false }
def GateRatesSaid : Prop := gateRatesRow.holds Try.pinned (OpenSpec.ofChange gateRatesSpec)

/-- ITS FALSE NEIGHBOUR: 'it returns false'. Refute it at one input. -/
def gateRatesWrong : ChangeSpec := { name := "gateRates", fn := fun _ => fun
  | [d1, d2] => { results := [.lit (.bool false)], args := [d1, d2] }
  | _ => none }
def GateRatesWrongFalsely : Prop := gateRatesRow.holds Try.pinned (OpenSpec.ofChange gateRatesWrong)

/-- 'empennagelaw12.GateRefuses': WHATEVER THE INPUT: true; the input reads as it did. -/
def gateRefusesSpec : ChangeSpec := { name := "gateRefuses", fn := fun _ => fun
  | [d1, d2] => { results := [.lit (.bool true)], args := [d1, d2] }
  | _ => none }
def gateRefusesRow : OpenClaim := { program := "ytmkpbbdocndfbaa", sum := "1c3d40bd983e23dea617c85bfe41fb340944cc65cceb7a1aae2930cd6a8ecbb0", func := "empennage/empennagelaw12.GateRefuses", spec := "gateRefuses", unfollowed := true, recurses := true, apart := false }
def GateRefusesSaid : Prop := gateRefusesRow.holds Try.pinned (OpenSpec.ofChange gateRefusesSpec)

/-- ITS FALSE NEIGHBOUR: 'it returns false'. Refute it at one input. -/
def gateRefusesWrong : ChangeSpec := { name := "gateRefuses", fn := fun _ => fun
  | [d1, d2] => { results := [.lit (.bool false)], args := [d1, d2] }
  | _ => none }
def GateRefusesWrongFalsely : Prop := gateRefusesRow.holds Try.pinned (OpenSpec.ofChange gateRefusesWrong)

/-- 'empennagelaw12.GatePlays': WHATEVER THE INPUT: true; the input reads as it did. -/
def gatePlaysSpec : ChangeSpec := { name := "gatePlays", fn := fun _ => fun
  | [d1, d2, d3] => { results := [.lit (.bool true)], args := [d1, d2, d3] }
  | _ => none }
def gatePlaysRow : OpenClaim := { program := "ytmkpbbdocndfbaa", sum := "1c3d40bd983e23dea617c85bfe41fb340944cc65cceb7a1aae2930cd6a8ecbb0", func := "empennage/empennagelaw12.GatePlays", spec := "gatePlays", unfollowed := true, recurses := true, apart := false }
def GatePlaysSaid : Prop := gatePlaysRow.holds Try.pinned (OpenSpec.ofChange gatePlaysSpec)

/-- ITS FALSE NEIGHBOUR: 'it returns false'. Refute it at one input. -/
def gatePlaysWrong : ChangeSpec := { name := "gatePlays", fn := fun _ => fun
  | [d1, d2, d3] => { results := [.lit (.bool false)], args := [d1, d2, d3] }
  | _ => none }
def GatePlaysWrongFalsely : Prop := gatePlaysRow.holds Try.pinned (OpenSpec.ofChange gatePlaysWrong)

/-- 'empennagelaw12.GateNil': WHATEVER THE INPUT: true; the input reads as it did. -/
def gateNilSpec : ChangeSpec := { name := "gateNil", fn := fun _ => fun
  | [d] => { results := [.lit (.bool true)], args := [d] }
  | _ => none }
def gateNilRow : OpenClaim := { program := "ytmkpbbdocndfbaa", sum := "1c3d40bd983e23dea617c85bfe41fb340944cc65cceb7a1aae2930cd6a8ecbb0", func := "empennage/empennagelaw12.GateNil", spec := "gateNil", unfollowed := true, recurses := true, apart := false }
def GateNilSaid : Prop := gateNilRow.holds Try.pinned (OpenSpec.ofChange gateNilSpec)

/-- ITS FALSE NEIGHBOUR: 'it returns false'. Refute it at one input. -/
def gateNilWrong : ChangeSpec := { name := "gateNil", fn := fun _ => fun
  | [d] => { results := [.lit (.bool false)], args := [d] }
  | _ => none }
def GateNilWrongFalsely : Prop := gateNilRow.holds Try.pinned (OpenSpec.ofChange gateNilWrong)

/-- 'empennagelaw14.WheelOnce': WHATEVER THE INPUT: true; the input reads as it did. -/
def wheelOnceSpec : ChangeSpec := { name := "wheelOnce", fn := fun _ => fun
  | [d1, d2] => { results := [.lit (.bool true)], args := [d1, d2] }
  | _ => none }
def wheelOnceRow : OpenClaim := { program := "ytmkpbbdocndfbaa", sum := "1c3d40bd983e23dea617c85bfe41fb340944cc65cceb7a1aae2930cd6a8ecbb0", func := "empennage/empennagelaw14.WheelOnce", spec := "wheelOnce", unfollowed := true, recurses := true, apart := false }
def WheelOnceSaid : Prop := wheelOnceRow.holds Try.pinned (OpenSpec.ofChange wheelOnceSpec)

/-- ITS FALSE NEIGHBOUR: 'it returns false'. Refute it at one input. -/
def wheelOnceWrong : ChangeSpec := { name := "wheelOnce", fn := fun _ => fun
  | [d1, d2] => { results := [.lit (.bool false)], args := [d1, d2] }
  | _ => none }
def WheelOnceWrongFalsely : Prop := wheelOnceRow.holds Try.pinned (OpenSpec.ofChange wheelOnceWrong)

/-- 'empennagelaw14.WheelAgain': WHATEVER THE INPUT: true; the input reads as it did. -/
def wheelAgainSpec : ChangeSpec := { name := "wheelAgain", fn := fun _ => fun
  | [d1, d2, d3] => { results := [.lit (.bool true)], args := [d1, d2, d3] }
  | _ => none }
def wheelAgainRow : OpenClaim := { program := "ytmkpbbdocndfbaa", sum := "1c3d40bd983e23dea617c85bfe41fb340944cc65cceb7a1aae2930cd6a8ecbb0", func := "empennage/empennagelaw14.WheelAgain", spec := "wheelAgain", unfollowed := true, recurses := true, apart := false }
def WheelAgainSaid : Prop := wheelAgainRow.holds Try.pinned (OpenSpec.ofChange wheelAgainSpec)

/-- ITS FALSE NEIGHBOUR: 'it returns false'. Refute it at one input. -/
def wheelAgainWrong : ChangeSpec := { name := "wheelAgain", fn := fun _ => fun
  | [d1, d2, d3] => { results := [.lit (.bool false)], args := [d1, d2, d3] }
  | _ => none }
def WheelAgainWrongFalsely : Prop := wheelAgainRow.holds Try.pinned (OpenSpec.ofChange wheelAgainWrong)

/-- 'empennagelaw14.WheelApart': WHATEVER THE INPUT: true; the input reads as it did. -/
def wheelApartSpec : ChangeSpec := { name := "wheelApart", fn := fun _ => fun
  | [d1, d2, d3] => { results := [.lit (.bool true)], args := [d1, d2, d3] }
  | _ => none }
def wheelApartRow : OpenClaim := { program := "ytmkpbbdocndfbaa", sum := "1c3d40bd983e23dea617c85bfe41fb340944cc65cceb7a1aae2930cd6a8ecbb0", func := "empennage/empennagelaw14.WheelApart", spec := "wheelApart", unfollowed := true, recurses := true, apart := false }
def WheelApartSaid : Prop := wheelApartRow.holds Try.pinned (OpenSpec.ofChange wheelApartSpec)

/-- ITS FALSE NEIGHBOUR: 'it returns false'. Refute it at one input. -/
def wheelApartWrong : ChangeSpec := { name := "wheelApart", fn := fun _ => fun
  | [d1, d2, d3] => { results := [.lit (.bool false)], args := [d1, d2, d3] }
  | _ => none }
def WheelApartWrongFalsely : Prop := wheelApartRow.holds Try.pinned (OpenSpec.ofChange wheelApartWrong)

/-- 'empennagelaw14.WheelPlays': WHATEVER THE INPUT: true; the input reads as it did. -/
def wheelPlaysSpec : ChangeSpec := { name := "wheelPlays", fn := fun _ => fun
  | [d] => { results := [.lit (.bool true)], args := [d] }
  | _ => none }
def wheelPlaysRow : OpenClaim := { program := "ytmkpbbdocndfbaa", sum := "1c3d40bd983e23dea617c85bfe41fb340944cc65cceb7a1aae2930cd6a8ecbb0", func := "empennage/empennagelaw14.WheelPlays", spec := "wheelPlays", unfollowed := true, recurses := true, apart := false }
def WheelPlaysSaid : Prop := wheelPlaysRow.holds Try.pinned (OpenSpec.ofChange wheelPlaysSpec)

/-- ITS FALSE NEIGHBOUR: 'it returns false'. Refute it at one input. -/
def wheelPlaysWrong : ChangeSpec := { name := "wheelPlays", fn := fun _ => fun
  | [d] => { results := [.lit (.bool false)], args := [d] }
  | _ => none }
def WheelPlaysWrongFalsely : Prop := wheelPlaysRow.holds Try.pinned (OpenSpec.ofChange wheelPlaysWrong)

/-- 'empennagelaw14.WheelNil': WHATEVER THE INPUT: true; the input reads as it did. -/
def wheelNilSpec : ChangeSpec := { name := "wheelNil", fn := fun _ => fun
  | [d1, d2] => { results := [.lit (.bool true)], args := [d1, d2] }
  | _ => none }
def wheelNilRow : OpenClaim := { program := "ytmkpbbdocndfbaa", sum := "1c3d40bd983e23dea617c85bfe41fb340944cc65cceb7a1aae2930cd6a8ecbb0", func := "empennage/empennagelaw14.WheelNil", spec := "wheelNil", unfollowed := true, recurses := true, apart := false }
def WheelNilSaid : Prop := wheelNilRow.holds Try.pinned (OpenSpec.ofChange wheelNilSpec)

/-- ITS FALSE NEIGHBOUR: 'it returns false'. Refute it at one input. -/
def wheelNilWrong : ChangeSpec := { name := "wheelNil", fn := fun _ => fun
  | [d1, d2] => { results := [.lit (.bool false)], args := [d1, d2] }
  | _ => none }
def WheelNilWrongFalsely : Prop := wheelNilRow.holds Try.pinned (OpenSpec.ofChange wheelNilWrong)

/-- 'empennagelaw19.RouterLanes': WHATEVER THE INPUT: true; the input reads as it did. -/
def routerLanesSpec : ChangeSpec := { name := "routerLanes", fn := fun _ => fun
  | [d1, d2] => { results := [.lit (.bool true)], args := [d1, d2] }
  | _ => none }
def routerLanesRow : OpenClaim := { program := "ytmkpbbdocndfbaa", sum := "1c3d40bd983e23dea617c85bfe41fb340944cc65cceb7a1aae2930cd6a8ecbb0", func := "empennage/empennagelaw19.RouterLanes", spec := "routerLanes", unfollowed := true, recurses := true, apart := false }
def RouterLanesSaid : Prop := routerLanesRow.holds Try.pinned (OpenSpec.ofChange routerLanesSpec)

/-- ITS FALSE NEIGHBOUR: 'it returns false'. Refute it at one input. -/
def routerLanesWrong : ChangeSpec := { name := "routerLanes", fn := fun _ => fun
  | [d1, d2] => { results := [.lit (.bool false)], args := [d1, d2] }
  | _ => none }
def RouterLanesWrongFalsely : Prop := routerLanesRow.holds Try.pinned (OpenSpec.ofChange routerLanesWrong)

/-- 'empennagelaw19.RouterNil': WHATEVER THE INPUT: true; the input reads as it did. -/
def routerNilSpec : ChangeSpec := { name := "routerNil", fn := fun _ => fun
  | [d1, d2] => { results := [.lit (.bool true)], args := [d1, d2] }
  | _ => none }
def routerNilRow : OpenClaim := { program := "ytmkpbbdocndfbaa", sum := "1c3d40bd983e23dea617c85bfe41fb340944cc65cceb7a1aae2930cd6a8ecbb0", func := "empennage/empennagelaw19.RouterNil", spec := "routerNil", unfollowed := true, recurses := true, apart := false }
def RouterNilSaid : Prop := routerNilRow.holds Try.pinned (OpenSpec.ofChange routerNilSpec)

/-- ITS FALSE NEIGHBOUR: 'it returns false'. Refute it at one input. -/
def routerNilWrong : ChangeSpec := { name := "routerNil", fn := fun _ => fun
  | [d1, d2] => { results := [.lit (.bool false)], args := [d1, d2] }
  | _ => none }
def RouterNilWrongFalsely : Prop := routerNilRow.holds Try.pinned (OpenSpec.ofChange routerNilWrong)

/-- 'empennagelaw19.RouterFits': WHATEVER THE INPUT: true; the input reads as it did. -/
def routerFitsSpec : ChangeSpec := { name := "routerFits", fn := fun _ => fun
  | [d1, d2, d3] => { results := [.lit (.bool true)], args := [d1, d2, d3] }
  | _ => none }
def routerFitsRow : OpenClaim := { program := "ytmkpbbdocndfbaa", sum := "1c3d40bd983e23dea617c85bfe41fb340944cc65cceb7a1aae2930cd6a8ecbb0", func := "empennage/empennagelaw19.RouterFits", spec := "routerFits", unfollowed := true, recurses := true, apart := false }
def RouterFitsSaid : Prop := routerFitsRow.holds Try.pinned (OpenSpec.ofChange routerFitsSpec)

/-- ITS FALSE NEIGHBOUR: 'it returns false'. Refute it at one input. -/
def routerFitsWrong : ChangeSpec := { name := "routerFits", fn := fun _ => fun
  | [d1, d2, d3] => { results := [.lit (.bool false)], args := [d1, d2, d3] }
  | _ => none }
def RouterFitsWrongFalsely : Prop := routerFitsRow.holds Try.pinned (OpenSpec.ofChange routerFitsWrong)

/-- 'empennagelaw19.RouterFates': WHATEVER THE INPUT: true; the input reads as it did. -/
def routerFatesSpec : ChangeSpec := { name := "routerFates", fn := fun _ => fun
  | [d1, d2] => { results := [.lit (.bool true)], args := [d1, d2] }
  | _ => none }
def routerFatesRow : OpenClaim := { program := "ytmkpbbdocndfbaa", sum := "1c3d40bd983e23dea617c85bfe41fb340944cc65cceb7a1aae2930cd6a8ecbb0", func := "empennage/empennagelaw19.RouterFates", spec := "routerFates", unfollowed := true, recurses := true, apart := false }
def RouterFatesSaid : Prop := routerFatesRow.holds Try.pinned (OpenSpec.ofChange routerFatesSpec)

/-- ITS FALSE NEIGHBOUR: 'it returns false'. Refute it at one input. -/
def routerFatesWrong : ChangeSpec := { name := "routerFates", fn := fun _ => fun
  | [d1, d2] => { results := [.lit (.bool false)], args := [d1, d2] }
  | _ => none }
def RouterFatesWrongFalsely : Prop := routerFatesRow.holds Try.pinned (OpenSpec.ofChange routerFatesWrong)

/-- 'empennagelaw18.QueueTimes': WHATEVER THE INPUT: true; the input reads as it did. -/
def queueTimesSpec : ChangeSpec := { name := "queueTimes", fn := fun _ => fun
  | [d1, d2] => { results := [.lit (.bool true)], args := [d1, d2] }
  | _ => none }
def queueTimesRow : OpenClaim := { program := "ytmkpbbdocndfbaa", sum := "1c3d40bd983e23dea617c85bfe41fb340944cc65cceb7a1aae2930cd6a8ecbb0", func := "empennage/empennagelaw18.QueueTimes", spec := "queueTimes", unfollowed := true, recurses := true, apart := false }
def QueueTimesSaid : Prop := queueTimesRow.holds Try.pinned (OpenSpec.ofChange queueTimesSpec)

/-- ITS FALSE NEIGHBOUR: 'it returns false'. Refute it at one input. -/
def queueTimesWrong : ChangeSpec := { name := "queueTimes", fn := fun _ => fun
  | [d1, d2] => { results := [.lit (.bool false)], args := [d1, d2] }
  | _ => none }
def QueueTimesWrongFalsely : Prop := queueTimesRow.holds Try.pinned (OpenSpec.ofChange queueTimesWrong)

/-- 'empennagelaw18.QueueHolds': WHATEVER THE INPUT: true; the input reads as it did. -/
def queueHoldsSpec : ChangeSpec := { name := "queueHolds", fn := fun _ => fun
  | [d1, d2] => { results := [.lit (.bool true)], args := [d1, d2] }
  | _ => none }
def queueHoldsRow : OpenClaim := { program := "ytmkpbbdocndfbaa", sum := "1c3d40bd983e23dea617c85bfe41fb340944cc65cceb7a1aae2930cd6a8ecbb0", func := "empennage/empennagelaw18.QueueHolds", spec := "queueHolds", unfollowed := true, recurses := true, apart := false }
def QueueHoldsSaid : Prop := queueHoldsRow.holds Try.pinned (OpenSpec.ofChange queueHoldsSpec)

/-- ITS FALSE NEIGHBOUR: 'it returns false'. Refute it at one input. -/
def queueHoldsWrong : ChangeSpec := { name := "queueHolds", fn := fun _ => fun
  | [d1, d2] => { results := [.lit (.bool false)], args := [d1, d2] }
  | _ => none }
def QueueHoldsWrongFalsely : Prop := queueHoldsRow.holds Try.pinned (OpenSpec.ofChange queueHoldsWrong)

/- THE SECOND FORM. 'bulk': how many values and letters a reading holds, each counted each time it is reached (what is shared counts as often as it is met; a slice's spare places count too). A statement '..UptoSaid' is the law's where the arguments, and the package variables that the reading takes, are together of bulk at most 1048576: NARROWER than '..Said'. Prove '..Said' where nothing that the law and all that it calls make is longer than what came in: it says more and counts as full. Else prove '..UptoSaid'. A law counts once. -/
mutual
def uptoBulk {H : Type} : DataW H → Nat
  | .lit (.string bytes) => bytes.length + 1
  | .lit _ => 1
  | .nil => 1
  | .ptr d => uptoBulk d + 1
  | .slice elems spare => uptoBulkAll elems + uptoBulkAll spare + 1
  | .agg parts => uptoBulkAll parts + 1
  | .iface _ d => uptoBulk d + 1
  | .map entries => uptoBulkEntries entries + 1
  | .held _ => 1
def uptoBulkAll {H : Type} : List (DataW H) → Nat
  | [] => 0
  | d :: r => uptoBulk d + uptoBulkAll r
def uptoBulkEntries {H : Type} : List (Lit × DataW H) → Nat
  | [] => 0
  | x :: r => uptoBulkEntry x + uptoBulkEntries r
def uptoBulkEntry {H : Type} : Lit × DataW H → Nat
  | (.string bytes, d) => bytes.length + uptoBulk d + 1
  | (_, d) => uptoBulk d + 1
 end
def uptoSmall : (H : Type) → List (DataW H) → Bool := fun _ ds => decide (uptoBulkAll ds ≤ 1048576)
def OpenSpec.upto (s : _root_.Go.ChangeSpec) : _root_.Go.OpenSpec := { _root_.Go.OpenSpec.ofChange s with cond := some uptoSmall }

/-- 'empennagelaw10.LanePlays', WHERE WHAT IT READS IS OF BULK AT MOST 1048576: true; the input reads as it did. -/
def lanePlaysUptoRow : OpenClaim := { program := "ytmkpbbdocndfbaa", sum := "1c3d40bd983e23dea617c85bfe41fb340944cc65cceb7a1aae2930cd6a8ecbb0", func := "empennage/empennagelaw10.LanePlays", spec := "lanePlays", unfollowed := true, recurses := true, apart := false, narrowed := true }
def LanePlaysUptoSaid : Prop := lanePlaysUptoRow.holds Try.pinned (OpenSpec.upto lanePlaysSpec)

/-- 'empennagelaw10.LaneOwns', WHERE WHAT IT READS IS OF BULK AT MOST 1048576: true; the input reads as it did. -/
def laneOwnsUptoRow : OpenClaim := { program := "ytmkpbbdocndfbaa", sum := "1c3d40bd983e23dea617c85bfe41fb340944cc65cceb7a1aae2930cd6a8ecbb0", func := "empennage/empennagelaw10.LaneOwns", spec := "laneOwns", unfollowed := true, recurses := true, apart := false, narrowed := true }
def LaneOwnsUptoSaid : Prop := laneOwnsUptoRow.holds Try.pinned (OpenSpec.upto laneOwnsSpec)

/-- 'empennagelaw10.LaneSame', WHERE WHAT IT READS IS OF BULK AT MOST 1048576: true; the input reads as it did. -/
def laneSameUptoRow : OpenClaim := { program := "ytmkpbbdocndfbaa", sum := "1c3d40bd983e23dea617c85bfe41fb340944cc65cceb7a1aae2930cd6a8ecbb0", func := "empennage/empennagelaw10.LaneSame", spec := "laneSame", unfollowed := true, recurses := true, apart := false, narrowed := true }
def LaneSameUptoSaid : Prop := laneSameUptoRow.holds Try.pinned (OpenSpec.upto laneSameSpec)

/-- 'empennagelaw12.GateJudges', WHERE WHAT IT READS IS OF BULK AT MOST 1048576: true; the input reads as it did. -/
def gateJudgesUptoRow : OpenClaim := { program := "ytmkpbbdocndfbaa", sum := "1c3d40bd983e23dea617c85bfe41fb340944cc65cceb7a1aae2930cd6a8ecbb0", func := "empennage/empennagelaw12.GateJudges", spec := "gateJudges", unfollowed := true, recurses := true, apart := false, narrowed := true }
def GateJudgesUptoSaid : Prop := gateJudgesUptoRow.holds Try.pinned (OpenSpec.upto gateJudgesSpec)

/-- 'empennagelaw12.GateLate', WHERE WHAT IT READS IS OF BULK AT MOST 1048576: true; the input reads as it did. -/
def gateLateUptoRow : OpenClaim := { program := "ytmkpbbdocndfbaa", sum := "1c3d40bd983e23dea617c85bfe41fb340944cc65cceb7a1aae2930cd6a8ecbb0", func := "empennage/empennagelaw12.GateLate", spec := "gateLate", unfollowed := true, recurses := true, apart := false, narrowed := true }
def GateLateUptoSaid : Prop := gateLateUptoRow.holds Try.pinned (OpenSpec.upto gateLateSpec)

/-- 'empennagelaw12.GateDoors', WHERE WHAT IT READS IS OF BULK AT MOST 1048576: true; the input reads as it did. -/
def gateDoorsUptoRow : OpenClaim := { program := "ytmkpbbdocndfbaa", sum := "1c3d40bd983e23dea617c85bfe41fb340944cc65cceb7a1aae2930cd6a8ecbb0", func := "empennage/empennagelaw12.GateDoors", spec := "gateDoors", unfollowed := true, recurses := true, apart := false, narrowed := true }
def GateDoorsUptoSaid : Prop := gateDoorsUptoRow.holds Try.pinned (OpenSpec.upto gateDoorsSpec)

/-- 'empennagelaw12.GateRates', WHERE WHAT IT READS IS OF BULK AT MOST 1048576: true; the input reads as it did. -/
def gateRatesUptoRow : OpenClaim := { program := "ytmkpbbdocndfbaa", sum := "1c3d40bd983e23dea617c85bfe41fb340944cc65cceb7a1aae2930cd6a8ecbb0", func := "empennage/empennagelaw12.GateRates", spec := "gateRates", unfollowed := true, recurses := true, apart := false, narrowed := true }
def GateRatesUptoSaid : Prop := gateRatesUptoRow.holds Try.pinned (OpenSpec.upto gateRatesSpec)

/-- 'empennagelaw12.GateRefuses', WHERE WHAT IT READS IS OF BULK AT MOST 1048576: true; the input reads as it did. -/
def gateRefusesUptoRow : OpenClaim := { program := "ytmkpbbdocndfbaa", sum := "1c3d40bd983e23dea617c85bfe41fb340944cc65cceb7a1aae2930cd6a8ecbb0", func := "empennage/empennagelaw12.GateRefuses", spec := "gateRefuses", unfollowed := true, recurses := true, apart := false, narrowed := true }
def GateRefusesUptoSaid : Prop := gateRefusesUptoRow.holds Try.pinned (OpenSpec.upto gateRefusesSpec)

/-- 'empennagelaw12.GatePlays', WHERE WHAT IT READS IS OF BULK AT MOST 1048576: true; the input reads as it did. -/
def gatePlaysUptoRow : OpenClaim := { program := "ytmkpbbdocndfbaa", sum := "1c3d40bd983e23dea617c85bfe41fb340944cc65cceb7a1aae2930cd6a8ecbb0", func := "empennage/empennagelaw12.GatePlays", spec := "gatePlays", unfollowed := true, recurses := true, apart := false, narrowed := true }
def GatePlaysUptoSaid : Prop := gatePlaysUptoRow.holds Try.pinned (OpenSpec.upto gatePlaysSpec)

/-- 'empennagelaw12.GateNil', WHERE WHAT IT READS IS OF BULK AT MOST 1048576: true; the input reads as it did. -/
def gateNilUptoRow : OpenClaim := { program := "ytmkpbbdocndfbaa", sum := "1c3d40bd983e23dea617c85bfe41fb340944cc65cceb7a1aae2930cd6a8ecbb0", func := "empennage/empennagelaw12.GateNil", spec := "gateNil", unfollowed := true, recurses := true, apart := false, narrowed := true }
def GateNilUptoSaid : Prop := gateNilUptoRow.holds Try.pinned (OpenSpec.upto gateNilSpec)

/-- 'empennagelaw14.WheelOnce', WHERE WHAT IT READS IS OF BULK AT MOST 1048576: true; the input reads as it did. -/
def wheelOnceUptoRow : OpenClaim := { program := "ytmkpbbdocndfbaa", sum := "1c3d40bd983e23dea617c85bfe41fb340944cc65cceb7a1aae2930cd6a8ecbb0", func := "empennage/empennagelaw14.WheelOnce", spec := "wheelOnce", unfollowed := true, recurses := true, apart := false, narrowed := true }
def WheelOnceUptoSaid : Prop := wheelOnceUptoRow.holds Try.pinned (OpenSpec.upto wheelOnceSpec)

/-- 'empennagelaw14.WheelAgain', WHERE WHAT IT READS IS OF BULK AT MOST 1048576: true; the input reads as it did. -/
def wheelAgainUptoRow : OpenClaim := { program := "ytmkpbbdocndfbaa", sum := "1c3d40bd983e23dea617c85bfe41fb340944cc65cceb7a1aae2930cd6a8ecbb0", func := "empennage/empennagelaw14.WheelAgain", spec := "wheelAgain", unfollowed := true, recurses := true, apart := false, narrowed := true }
def WheelAgainUptoSaid : Prop := wheelAgainUptoRow.holds Try.pinned (OpenSpec.upto wheelAgainSpec)

/-- 'empennagelaw14.WheelApart', WHERE WHAT IT READS IS OF BULK AT MOST 1048576: true; the input reads as it did. -/
def wheelApartUptoRow : OpenClaim := { program := "ytmkpbbdocndfbaa", sum := "1c3d40bd983e23dea617c85bfe41fb340944cc65cceb7a1aae2930cd6a8ecbb0", func := "empennage/empennagelaw14.WheelApart", spec := "wheelApart", unfollowed := true, recurses := true, apart := false, narrowed := true }
def WheelApartUptoSaid : Prop := wheelApartUptoRow.holds Try.pinned (OpenSpec.upto wheelApartSpec)

/-- 'empennagelaw14.WheelPlays', WHERE WHAT IT READS IS OF BULK AT MOST 1048576: true; the input reads as it did. -/
def wheelPlaysUptoRow : OpenClaim := { program := "ytmkpbbdocndfbaa", sum := "1c3d40bd983e23dea617c85bfe41fb340944cc65cceb7a1aae2930cd6a8ecbb0", func := "empennage/empennagelaw14.WheelPlays", spec := "wheelPlays", unfollowed := true, recurses := true, apart := false, narrowed := true }
def WheelPlaysUptoSaid : Prop := wheelPlaysUptoRow.holds Try.pinned (OpenSpec.upto wheelPlaysSpec)

/-- 'empennagelaw14.WheelNil', WHERE WHAT IT READS IS OF BULK AT MOST 1048576: true; the input reads as it did. -/
def wheelNilUptoRow : OpenClaim := { program := "ytmkpbbdocndfbaa", sum := "1c3d40bd983e23dea617c85bfe41fb340944cc65cceb7a1aae2930cd6a8ecbb0", func := "empennage/empennagelaw14.WheelNil", spec := "wheelNil", unfollowed := true, recurses := true, apart := false, narrowed := true }
def WheelNilUptoSaid : Prop := wheelNilUptoRow.holds Try.pinned (OpenSpec.upto wheelNilSpec)

/-- 'empennagelaw19.RouterLanes', WHERE WHAT IT READS IS OF BULK AT MOST 1048576: true; the input reads as it did. -/
def routerLanesUptoRow : OpenClaim := { program := "ytmkpbbdocndfbaa", sum := "1c3d40bd983e23dea617c85bfe41fb340944cc65cceb7a1aae2930cd6a8ecbb0", func := "empennage/empennagelaw19.RouterLanes", spec := "routerLanes", unfollowed := true, recurses := true, apart := false, narrowed := true }
def RouterLanesUptoSaid : Prop := routerLanesUptoRow.holds Try.pinned (OpenSpec.upto routerLanesSpec)

/-- 'empennagelaw19.RouterNil', WHERE WHAT IT READS IS OF BULK AT MOST 1048576: true; the input reads as it did. -/
def routerNilUptoRow : OpenClaim := { program := "ytmkpbbdocndfbaa", sum := "1c3d40bd983e23dea617c85bfe41fb340944cc65cceb7a1aae2930cd6a8ecbb0", func := "empennage/empennagelaw19.RouterNil", spec := "routerNil", unfollowed := true, recurses := true, apart := false, narrowed := true }
def RouterNilUptoSaid : Prop := routerNilUptoRow.holds Try.pinned (OpenSpec.upto routerNilSpec)

/-- 'empennagelaw19.RouterFits', WHERE WHAT IT READS IS OF BULK AT MOST 1048576: true; the input reads as it did. -/
def routerFitsUptoRow : OpenClaim := { program := "ytmkpbbdocndfbaa", sum := "1c3d40bd983e23dea617c85bfe41fb340944cc65cceb7a1aae2930cd6a8ecbb0", func := "empennage/empennagelaw19.RouterFits", spec := "routerFits", unfollowed := true, recurses := true, apart := false, narrowed := true }
def RouterFitsUptoSaid : Prop := routerFitsUptoRow.holds Try.pinned (OpenSpec.upto routerFitsSpec)

/-- 'empennagelaw19.RouterFates', WHERE WHAT IT READS IS OF BULK AT MOST 1048576: true; the input reads as it did. -/
def routerFatesUptoRow : OpenClaim := { program := "ytmkpbbdocndfbaa", sum := "1c3d40bd983e23dea617c85bfe41fb340944cc65cceb7a1aae2930cd6a8ecbb0", func := "empennage/empennagelaw19.RouterFates", spec := "routerFates", unfollowed := true, recurses := true, apart := false, narrowed := true }
def RouterFatesUptoSaid : Prop := routerFatesUptoRow.holds Try.pinned (OpenSpec.upto routerFatesSpec)

/-- 'empennagelaw18.QueueTimes', WHERE WHAT IT READS IS OF BULK AT MOST 1048576: true; the input reads as it did. -/
def queueTimesUptoRow : OpenClaim := { program := "ytmkpbbdocndfbaa", sum := "1c3d40bd983e23dea617c85bfe41fb340944cc65cceb7a1aae2930cd6a8ecbb0", func := "empennage/empennagelaw18.QueueTimes", spec := "queueTimes", unfollowed := true, recurses := true, apart := false, narrowed := true }
def QueueTimesUptoSaid : Prop := queueTimesUptoRow.holds Try.pinned (OpenSpec.upto queueTimesSpec)

/-- 'empennagelaw18.QueueHolds', WHERE WHAT IT READS IS OF BULK AT MOST 1048576: true; the input reads as it did. -/
def queueHoldsUptoRow : OpenClaim := { program := "ytmkpbbdocndfbaa", sum := "1c3d40bd983e23dea617c85bfe41fb340944cc65cceb7a1aae2930cd6a8ecbb0", func := "empennage/empennagelaw18.QueueHolds", spec := "queueHolds", unfollowed := true, recurses := true, apart := false, narrowed := true }
def QueueHoldsUptoSaid : Prop := queueHoldsUptoRow.holds Try.pinned (OpenSpec.upto queueHoldsSpec)

end Rows
end Go.Proofs.Ytmkpbbdocndfbaa
