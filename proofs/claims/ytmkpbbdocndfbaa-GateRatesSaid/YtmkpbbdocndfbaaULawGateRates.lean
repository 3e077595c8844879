/- Whatever channel and whatever numbers: GateRates returns true, and the input reads as it did. -/
import Derived.Test.YtmkpbbdocndfbaaUGateRates
import Derived.Test.YtmkpbbdocndfbaaUJoin
import Derived.ShutString
namespace Go.Proofs.Ytmkpbbdocndfbaa.gateRates
open Go.ChangeShapes Go.WideShapes Go.ChangeAt Go.RowKit
set_option linter.unusedVariables false

theorem own : ownKnob Try.prog.godebug = none := by kernel_rfl
theorem laidOut : laidOutB Try.prog = true := by kernel_rfl
theorem inI {n : Int} (h : (Lit.int .i64 n).wf = true) : InI n := by
  simp [Lit.wf, IntKind.min, IntKind.max, IntKind.bits, IntKind.signed] at h
  unfold InI; omega
set_option maxHeartbeats 1000000 in
set_option maxRecDepth 100000 in
theorem lifted (os : Os) (started : os.Started) (H : Type) (enc : TypeId × Value → H) :
    ReturnsInHanded {} Try.checked os 9 .any (Rows.gateRatesSpec.pre6 enc Try.prog Try.f9 Rows.gateRatesRow.domain false) (Rows.gateRatesSpec.post enc Try.prog Try.f9 false true false false) := by
  refine returnsInHanded_of_change (C := Try.checked) own started (by kernel_rfl) Try.func9
    (ChangeSpec.witness6 (enc := enc) (C := Try.checked) false ⟨#[], #[.agg (chC ⟨0, 0, 0, 0, 0, 0, 0, 0, 0, 0, 0⟩).toArray, .slice none 0 0], []⟩ 8 (by kernel_rfl) (by kernel_rfl) (by kernel_rfl) (by kernel_rfl)) ?_
  intro W base args ds gs before hval0 hW hcnd _
  have hval : ∀ (j : Nat) t v, Try.f9.params[j]? = some t → args[j]? = some v → Value.okWide Try.prog W .any base t v := hval0
  have hW' := hW
  obtain ⟨p, q, hA0, hV, rfl, hfz, hnd⟩ := hW
  have hA : DataW.TrodAll enc Try.prog W 0 (fun _ => true) true Try.f9.params.toList args.toList ds p := hA0
  rw [Try.params9] at hA hval
  obtain ⟨v0, vs0, d0, ds0, p0, q0, hargs, rfl, rfl, h0, r0⟩ := trodAll_cons hA
  obtain ⟨v1, vs1, d1, ds1, p1, q1, rfl, rfl, rfl, h1, r1⟩ := trodAll_cons r0
  obtain ⟨rfl, rfl, rfl⟩ := trodAll_nil r1
  obtain rfl : args = #[v0, v1] := by cases args; simp_all
  obtain ⟨rfl, rfl⟩ := trodVars_none hV
  obtain ⟨cs0, rfl, _⟩ := okWide_struct Try.underlying61 (hval 0 61 v0 rfl rfl)
  have k0 := h0
  have lt0 : ∀ x ∈ p0, x.block < W.heap.size := by obtain ⟨m, hm⟩ := k0; exact DataW.trod_lt m _ _ _ hm
  obtain ⟨ch0, hc0⟩ : ∃ k, cs0 = (chC k).toArray := by
    obtain ⟨fuel, hf⟩ := h0
    obtain ⟨k, e⟩ := rd_ch hf
    exact ⟨k, by rw [← e]; simp [Value.cells]⟩
  subst hc0
  obtain ⟨a1, len1, cap1, rfl⟩ := okWide_slice Try.underlying31 (hval 1 31 v1 rfl rfl)
  have k1 := h1
  have lt1 : ∀ x ∈ p1, x.block < W.heap.size := by obtain ⟨m, hm⟩ := k1; exact DataW.trod_lt m _ _ _ hm
  obtain ⟨z1, hR1, hI1⟩ : ∃ za, Foot (fun w => RInts w (.slice a1 len1 cap1) za) W All ∧ True := by
    obtain ⟨fuel, hf⟩ := h1
    obtain ⟨v, zs, e, hR, hI⟩ := rd_ints hf
    cases e
    exact ⟨zs, hR, trivial⟩
  clear hA0 hval0
  refine (gateRates_walk ch0 hR1).mono fun e W' ⟨he, hE⟩ => ?_
  subst he
  have bel : Below W.heap.size W W' := hE.below
  exact ⟨_, rfl, _, _, _, [], _, [], hW', trodAll_mk1 (shut_bool Try.underlying4 _), (trodAll_cons_mk (Below.trod laidOut (by kernel_rfl) (of_decide_eq_true (by kernel_rfl)) k0 bel lt0) (trodAll_cons_mk (Below.trod laidOut (by kernel_rfl) (of_decide_eq_true (by kernel_rfl)) k1 bel lt1) trodAll_mk0)), rfl, bel.frame _, fun h => by cases h⟩
theorem closed : joinedFacts Try.prog 9 Try.f9 Rows.gateRatesSpec Rows.gateRatesRow = true := by
  unfold joinedFacts
  rw [jEnter, jLift, jMake]
  kernel_rfl
theorem over : Rows.gateRatesRow.holds Try.pinned (OpenSpec.ofChange Rows.gateRatesSpec) :=
  OpenClaim.holds_of_wide 9 Try.f9 rfl rfl rfl rfl rfl rfl rfl ⟨rfl, rfl, rfl, rfl, rfl⟩ rfl rfl rfl rfl rfl (by kernel_rfl) Try.func9 closed
    (of_decide_eq_true (by kernel_rfl)) (by unfold Func.isWrapper; first | (rw [if_pos (by decide +kernel)]; kernel_rfl) | (rw [if_neg (by decide +kernel)]; exact ⟨rfl, rfl⟩))
    (fun os started H enc _ => lifted os started H enc)
theorem proved : Rows.GateRatesSaid := over
#print axioms proved
end Go.Proofs.Ytmkpbbdocndfbaa.gateRates
namespace Go.Proofs.Ytmkpbbdocndfbaa
/-- The row. -/
theorem gateRates_holds : Rows.GateRatesSaid := gateRates.proved
end Go.Proofs.Ytmkpbbdocndfbaa
