/- Closed facts on the program, for the rows' frames: those that look at all functions, one by one. -/
import Derived.Test.YtmkpbbdocndfbaaRows
import Derived.ProofKit
namespace Go.Proofs.Ytmkpbbdocndfbaa
theorem jOrder0 : Try.prog.initOrder = "harness f9889d2a2fcf0dfe2824b72029d250d30c725794040924e179a45c43deebad6a cut at empennage/empennagelaw10.LanePlays empennage/empennagelaw10.LaneOwns empennage/empennagelaw10.LaneSame empennage/empennagelaw12.GateJudges empennage/empennagelaw12.GateLate empennage/empennagelaw12.GateDoors empennage/empennagelaw12.GateRates empennage/empennagelaw12.GateRefuses empennage/empennagelaw12.GatePlays empennage/empennagelaw12.GateNil empennage/empennagelaw14.WheelOnce empennage/empennagelaw14.WheelAgain empennage/empennagelaw14.WheelApart empennage/empennagelaw14.WheelPlays empennage/empennagelaw14.WheelNil empennage/empennagelaw19.RouterLanes empennage/empennagelaw19.RouterNil empennage/empennagelaw19.RouterFits empennage/empennagelaw19.RouterFates empennage/empennagelaw18.QueueTimes empennage/empennagelaw18.QueueHolds" := by kernel_rfl
theorem jOrder1 : ("harness f9889d2a2fcf0dfe2824b72029d250d30c725794040924e179a45c43deebad6a cut at empennage/empennagelaw10.LanePlays empennage/empennagelaw10.LaneOwns empennage/empennagelaw10.LaneSame empennage/empennagelaw12.GateJudges empennage/empennagelaw12.GateLate empennage/empennagelaw12.GateDoors empennage/empennagelaw12.GateRates empennage/empennagelaw12.GateRefuses empennage/empennagelaw12.GatePlays empennage/empennagelaw12.GateNil empennage/empennagelaw14.WheelOnce empennage/empennagelaw14.WheelAgain empennage/empennagelaw14.WheelApart empennage/empennagelaw14.WheelPlays empennage/empennagelaw14.WheelNil empennage/empennagelaw19.RouterLanes empennage/empennagelaw19.RouterNil empennage/empennagelaw19.RouterFits empennage/empennagelaw19.RouterFates empennage/empennagelaw18.QueueTimes empennage/empennagelaw18.QueueHolds" : String) = "harness f9889d2a2fcf0dfe2824b72029d250d30c725794040924e179a45c43deebad6a cut " ++ "at empennage/empennagelaw10.LanePlays empennage/empennagelaw10.LaneOwns empennage/empennagelaw10.LaneSame empennage/empennagelaw12.GateJudges empennage/empennagelaw12.GateLate empennage/empennagelaw12.GateDoors empennage/empennagelaw12.GateRates empennage/empennagelaw12.GateRefuses empennage/empennagelaw12.GatePlays empennage/empennagelaw12.GateNil empennage/empennagelaw14.WheelOnce empennage/empennagelaw14.WheelAgain empennage/empennagelaw14.WheelApart empennage/empennagelaw14.WheelPlays empennage/empennagelaw14.WheelNil empennage/empennagelaw19.RouterLanes empennage/empennagelaw19.RouterNil empennage/empennagelaw19.RouterFits empennage/empennagelaw19.RouterFates empennage/empennagelaw18.QueueTimes empennage/empennagelaw18.QueueHolds" := by kernel_rfl
theorem jWords : ∃ r, behindMainWord (wordsSigns Try.prog.initOrder.toList) = "cut".toList :: r := by
  rw [jOrder0, jOrder1, String.toList_append]
  generalize ("at empennage/empennagelaw10.LanePlays empennage/empennagelaw10.LaneOwns empennage/empennagelaw10.LaneSame empennage/empennagelaw12.GateJudges empennage/empennagelaw12.GateLate empennage/empennagelaw12.GateDoors empennage/empennagelaw12.GateRates empennage/empennagelaw12.GateRefuses empennage/empennagelaw12.GatePlays empennage/empennagelaw12.GateNil empennage/empennagelaw14.WheelOnce empennage/empennagelaw14.WheelAgain empennage/empennagelaw14.WheelApart empennage/empennagelaw14.WheelPlays empennage/empennagelaw14.WheelNil empennage/empennagelaw19.RouterLanes empennage/empennagelaw19.RouterNil empennage/empennagelaw19.RouterFits empennage/empennagelaw19.RouterFates empennage/empennagelaw18.QueueTimes empennage/empennagelaw18.QueueHolds" : String).toList = r
  refine ⟨wordsSigns r, ?_⟩
  kernel_rfl
theorem jEq1 : (("cut" : String).toList == ("gc" : String).toList) = false := by kernel_rfl
theorem jEq2 : (("cut" : String).toList == ("spec" : String).toList) = false := by kernel_rfl
theorem jEq3 : (("cut" : String).toList == ("cut" : String).toList) = true := by kernel_rfl
theorem jEq4 : (("cut" : String).toList == ("carried" : String).toList) = false := by kernel_rfl
theorem jStrip (r : List (List Char)) : stripLifts liftWords (("cut" : String).toList :: r) = ([], ("cut" : String).toList :: r) := by kernel_rfl
theorem jLater : Try.prog.laysLater = false := by kernel_rfl
theorem jRefl : Try.prog.bearsReflect = false := by kernel_rfl
theorem jDoor : Try.prog.doorFits [] = true := by kernel_rfl
theorem enter_of {P : Program} {r : List (List Char)} (h : behindMainWord (wordsSigns P.initOrder.toList) = ("cut" : String).toList :: r) (h1 : P.laysLater = false) (h2 : P.bearsReflect = false) (h3 : P.doorFits [] = true) : P.mayEnter = true := by
  unfold Program.mayEnter
  rw [h]
  simp only [jStrip, h1, h2, h3]
  simp
theorem jEnter : Try.prog.mayEnter = true := jWords.elim fun _ h => enter_of h jLater jRefl jDoor
theorem jHead : Try.prog.headLifts = [] := by
  obtain ⟨r, h⟩ := jWords
  unfold Program.headLifts
  rw [h]
  kernel_rfl
theorem jLift : Try.prog.liftsFinal = false := by
  obtain ⟨r, h⟩ := jWords
  unfold Program.liftsFinal
  rw [h, jHead]
  kernel_rfl
theorem make_of {P : Program} {r : List (List Char)} (h : behindMainWord (wordsSigns P.initOrder.toList) = ("cut" : String).toList :: r) : P.make = some .cut := by
  unfold Program.make
  rw [h]
  simp only [jEq1, jEq2, jEq3]
  simp
theorem jMake : Try.prog.make = some .cut := jWords.elim fun _ h => make_of h
end Go.Proofs.Ytmkpbbdocndfbaa
