/- Whatever channel and whatever list of steps: GateRefuses returns true, and the input reads as it did. -/
import Derived.Test.YtmkpbbdocndfbaaUGateRefuses
import Derived.Test.YtmkpbbdocndfbaaUJoin
import Derived.ShutString
namespace Go.Proofs.Ytmkpbbdocndfbaa.gateRefuses
open Go.ChangeShapes Go.WideShapes Go.ChangeAt Go.RowKit
set_option linter.unusedVariables false

theorem own : ownKnob Try.prog.godebug = none := by kernel_rfl
theorem laidOut : laidOutB Try.prog = true := by kernel_rfl
theorem inI {n : Int} (h : (Lit.int .i64 n).wf = true) : InI n := by
  simp [Lit.wf, IntKind.min, IntKind.max, IntKind.bits, IntKind.signed] at h
  unfold InI; omega
set_option maxHeartbeats 1000000 in
set_option maxRecDepth 100000 in
theorem lifted (os : Os) (started : os.Started) (H : Type) (enc : TypeId × Value → H) :
    ReturnsInHanded {} Try.checked os 10 .any (Rows.gateRefusesSpec.pre6 enc Try.prog Try.f10 Rows.gateRefusesRow.domain false) (Rows.gateRefusesSpec.post enc Try.prog Try.f10 false true false false) := by
  refine returnsInHanded_of_change (C := Try.checked) own started (by kernel_rfl) Try.func10
    (ChangeSpec.witness6 (enc := enc) (C := Try.checked) false ⟨#[], #[.agg (chC ⟨0, 0, 0, 0, 0, 0, 0, 0, 0, 0, 0⟩).toArray, .slice none 0 0], []⟩ 8 (by kernel_rfl) (by kernel_rfl) (by kernel_rfl) (by kernel_rfl)) ?_
  intro W base args ds gs before hval0 hW hcnd _
  have hval : ∀ (j : Nat) t v, Try.f10.params[j]? = some t → args[j]? = some v → Value.okWide Try.prog W .any base t v := hval0
  have hW' := hW
  obtain ⟨p, q, hA0, hV, rfl, hfz, hnd⟩ := hW
  have hA : DataW.TrodAll enc Try.prog W 0 (fun _ => true) true Try.f10.params.toList args.toList ds p := hA0
  rw [Try.params10] at hA hval
  obtain ⟨v0, vs0, d0, ds0, p0, q0, hargs, rfl, rfl, h0, r0⟩ := trodAll_cons hA
  obtain ⟨v1, vs1, d1, ds1, p1, q1, rfl, rfl, rfl, h1, r1⟩ := trodAll_cons r0
  obtain ⟨rfl, rfl, rfl⟩ := trodAll_nil r1
  obtain rfl : args = #[v0, v1] := by cases args; simp_all
  obtain ⟨rfl, rfl⟩ := trodVars_none hV
  obtain ⟨cs0, rfl, _⟩ := okWide_struct Try.underlying61 (hval 0 61 v0 rfl rfl)
  have k0 := h0
  have lt0 : ∀ x ∈ p0, x.block < W.heap.size := by obtain ⟨m, hm⟩ := k0; exact DataW.trod_lt m _ _ _ hm
  obtain ⟨ch0, hc0⟩ : ∃ k, cs0 = (chC k).toArray := by
    obtain ⟨fuel, hf⟩ := h0
    obtain ⟨k, e⟩ := rd_ch hf
    exact ⟨k, by rw [← e]; simp [Value.cells]⟩
  subst hc0
  obtain ⟨a1, len1, cap1, rfl⟩ := okWide_slice Try.underlying73 (hval 1 73 v1 rfl rfl)
  have k1 := h1
  have lt1 : ∀ x ∈ p1, x.block < W.heap.size := by obtain ⟨m, hm⟩ := k1; exact DataW.trod_lt m _ _ _ hm
  obtain ⟨z1, hR1, hI1⟩ : ∃ za, Rd 6 St12C W All (.slice a1 len1 cap1) za ∧ True := by
    obtain ⟨fuel, hf⟩ := h1
    obtain ⟨v, zs, e, hR, hI⟩ := rd_st12s hf
    cases e
    exact ⟨zs, hR, trivial⟩
  clear hA0 hval0
  refine (gateRefuses_walk ch0 hR1).mono fun e W' ⟨he, hE⟩ => ?_
  subst he
  have bel : Below W.heap.size W W' := hE.below
  exact ⟨_, rfl, _, _, _, [], _, [], hW', trodAll_mk1 (shut_bool Try.underlying4 _), (trodAll_cons_mk (Below.trod laidOut (by kernel_rfl) (of_decide_eq_true (by kernel_rfl)) k0 bel lt0) (trodAll_cons_mk (Below.trod laidOut (by kernel_rfl) (of_decide_eq_true (by kernel_rfl)) k1 bel lt1) trodAll_mk0)), rfl, bel.frame _, fun h => by cases h⟩
theorem closed : joinedFacts Try.prog 10 Try.f10 Rows.gateRefusesSpec Rows.gateRefusesRow = true := by
  unfold joinedFacts
  rw [jEnter, jLift, jMake]
  kernel_rfl
theorem over : Rows.gateRefusesRow.holds Try.pinned (OpenSpec.ofChange Rows.gateRefusesSpec) :=
  OpenClaim.holds_of_wide 10 Try.f10 rfl rfl rfl rfl rfl rfl rfl ⟨rfl, rfl, rfl, rfl, rfl⟩ rfl rfl rfl rfl rfl (by kernel_rfl) Try.func10 closed
    (of_decide_eq_true (by kernel_rfl)) (by unfold Func.isWrapper; first | (rw [if_pos (by decide +kernel)]; kernel_rfl) | (rw [if_neg (by decide +kernel)]; exact ⟨rfl, rfl⟩))
    (fun os started H enc _ => lifted os started H enc)
theorem proved : Rows.GateRefusesSaid := over
#print axioms proved
end Go.Proofs.Ytmkpbbdocndfbaa.gateRefuses
namespace Go.Proofs.Ytmkpbbdocndfbaa
/-- The row. -/
theorem gateRefuses_holds : Rows.GateRefusesSaid := gateRefuses.proved
end Go.Proofs.Ytmkpbbdocndfbaa
