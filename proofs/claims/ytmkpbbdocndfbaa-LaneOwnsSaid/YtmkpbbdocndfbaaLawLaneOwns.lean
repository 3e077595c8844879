/- Whatever message comes in: LaneOwns returns true, and the input reads as it did. -/
import Derived.Test.YtmkpbbdocndfbaaLaneOwns
import Derived.Test.YtmkpbbdocndfbaaJoin
import Derived.ShutString
namespace Go.Proofs.Ytmkpbbdocndfbaa.laneOwns
open Go.ChangeShapes Go.WideShapes Go.ChangeAt Go.RowKit
set_option linter.unusedVariables false

theorem own : ownKnob Try.prog.godebug = none := by kernel_rfl
theorem laidOut : laidOutB Try.prog = true := by kernel_rfl
theorem inI {n : Int} (h : (Lit.int .i64 n).wf = true) : InI n := by
  simp [Lit.wf, IntKind.min, IntKind.max, IntKind.bits, IntKind.signed] at h
  unfold InI; omega
set_option maxRecDepth 100000 in
theorem lifted (os : Os) (started : os.Started) (H : Type) (enc : TypeId × Value → H) :
    ReturnsInHanded {} Try.checked os 4 .any (Rows.laneOwnsSpec.pre6 enc Try.prog Try.f4 Rows.laneOwnsRow.domain false) (Rows.laneOwnsSpec.post enc Try.prog Try.f4 false true false false) := by
  refine returnsInHanded_of_change (C := Try.checked) own started (by kernel_rfl) Try.func4
    (ChangeSpec.witness6 (enc := enc) (C := Try.checked) false ⟨#[], #[.agg (msgC (.slice none 0 0) ⟨[], 0, 0, 0, 0⟩).toArray], []⟩ 8 (by kernel_rfl) (by kernel_rfl) (by kernel_rfl) (by kernel_rfl)) ?_
  intro W base args ds gs before hval0 hW hcnd _
  have hval : ∀ (j : Nat) t v, Try.f4.params[j]? = some t → args[j]? = some v → Value.okWide Try.prog W .any base t v := hval0
  have hW' := hW
  obtain ⟨p, q, hA0, hV, rfl, hfz, hnd⟩ := hW
  have hA : DataW.TrodAll enc Try.prog W 0 (fun _ => true) true Try.f4.params.toList args.toList ds p := hA0
  rw [Try.params4] at hA hval
  obtain ⟨v0, vs0, d0, ds0, p0, q0, hargs, rfl, rfl, h0, r0⟩ := trodAll_cons hA
  obtain ⟨rfl, rfl, rfl⟩ := trodAll_nil r0
  obtain rfl : args = #[v0] := by cases args; simp_all
  obtain ⟨rfl, rfl⟩ := trodVars_none hV
  obtain ⟨cs0, rfl, _⟩ := okWide_struct Try.underlying33 (hval 0 33 v0 rfl rfl)
  have k0 := h0
  have lt0 : ∀ x ∈ p0, x.block < W.heap.size := by obtain ⟨m, hm⟩ := k0; exact DataW.trod_lt m _ _ _ hm
  obtain ⟨ws0, m0, hc0, hR0⟩ : ∃ ws m, cs0 = (msgC ws m).toArray ∧ Foot (fun w => RInts w ws m.words) W All := by
    obtain ⟨fuel, hf⟩ := h0
    obtain ⟨ws, m, e, hR, _⟩ := rd_msg hf
    exact ⟨ws, m, by rw [← e]; simp [Value.cells], hR⟩
  subst hc0
  clear hA0 hval0
  refine (laneOwns10_walk hR0).mono fun e W' ⟨he, hE⟩ => ?_
  subst he
  have bel : Below W.heap.size W W' := hE.below
  exact ⟨_, rfl, _, _, _, [], _, [], hW', trodAll_mk1 (shut_bool Try.underlying4 _), (trodAll_cons_mk (Below.trod laidOut (by kernel_rfl) (of_decide_eq_true (by kernel_rfl)) k0 bel lt0) trodAll_mk0), rfl, bel.frame _, fun h => by cases h⟩
theorem closed : joinedFacts Try.prog 4 Try.f4 Rows.laneOwnsSpec Rows.laneOwnsRow = true := by
  unfold joinedFacts
  rw [jEnter, jLift, jMake]
  kernel_rfl
theorem over : Rows.laneOwnsRow.holds Try.pinned (OpenSpec.ofChange Rows.laneOwnsSpec) :=
  OpenClaim.holds_of_wide 4 Try.f4 rfl rfl rfl rfl rfl rfl rfl ⟨rfl, rfl, rfl, rfl, rfl⟩ rfl rfl rfl rfl rfl (by kernel_rfl) Try.func4 closed
    (of_decide_eq_true (by kernel_rfl)) (by unfold Func.isWrapper; first | (rw [if_pos (by decide +kernel)]; kernel_rfl) | (rw [if_neg (by decide +kernel)]; exact ⟨rfl, rfl⟩))
    (fun os started H enc _ => lifted os started H enc)
theorem proved : Rows.LaneOwnsSaid := over
#print axioms proved
end Go.Proofs.Ytmkpbbdocndfbaa.laneOwns
namespace Go.Proofs.Ytmkpbbdocndfbaa
/-- The row. -/
theorem laneOwns_holds : Rows.LaneOwnsSaid := laneOwns.proved
end Go.Proofs.Ytmkpbbdocndfbaa
