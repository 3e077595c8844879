/- Whatever step: GateNil returns true, and the input reads as it did. -/
import Derived.Test.YtmkpbbdocndfbaaUGateNil
import Derived.Test.YtmkpbbdocndfbaaUJoin
import Derived.ShutString
namespace Go.Proofs.Ytmkpbbdocndfbaa.gateNil
open Go.ChangeShapes Go.WideShapes Go.ChangeAt Go.RowKit
set_option linter.unusedVariables false

theorem own : ownKnob Try.prog.godebug = none := by kernel_rfl
theorem laidOut : laidOutB Try.prog = true := by kernel_rfl
theorem inI {n : Int} (h : (Lit.int .i64 n).wf = true) : InI n := by
  simp [Lit.wf, IntKind.min, IntKind.max, IntKind.bits, IntKind.signed] at h
  unfold InI; omega
set_option maxHeartbeats 1000000 in
set_option maxRecDepth 100000 in
theorem lifted (os : Os) (started : os.Started) (H : Type) (enc : TypeId × Value → H) :
    ReturnsInHanded {} Try.checked os 12 .any (Rows.gateNilSpec.pre6 enc Try.prog Try.f12 Rows.gateNilRow.domain false) (Rows.gateNilSpec.post enc Try.prog Try.f12 false true false false) := by
  refine returnsInHanded_of_change (C := Try.checked) own started (by kernel_rfl) Try.func12
    (ChangeSpec.witness6 (enc := enc) (C := Try.checked) false ⟨#[], #[.agg (st12C (.slice none 0 0) ⟨0, 0, 0, 0, 0, []⟩).toArray], []⟩ 8 (by kernel_rfl) (by kernel_rfl) (by kernel_rfl) (by kernel_rfl)) ?_
  intro W base args ds gs before hval0 hW hcnd _
  have hval : ∀ (j : Nat) t v, Try.f12.params[j]? = some t → args[j]? = some v → Value.okWide Try.prog W .any base t v := hval0
  have hW' := hW
  obtain ⟨p, q, hA0, hV, rfl, hfz, hnd⟩ := hW
  have hA : DataW.TrodAll enc Try.prog W 0 (fun _ => true) true Try.f12.params.toList args.toList ds p := hA0
  rw [Try.params12] at hA hval
  obtain ⟨v0, vs0, d0, ds0, p0, q0, hargs, rfl, rfl, h0, r0⟩ := trodAll_cons hA
  obtain ⟨rfl, rfl, rfl⟩ := trodAll_nil r0
  obtain rfl : args = #[v0] := by cases args; simp_all
  obtain ⟨rfl, rfl⟩ := trodVars_none hV
  obtain ⟨cs0, rfl, _⟩ := okWide_struct Try.underlying63 (hval 0 63 v0 rfl rfl)
  have k0 := h0
  have lt0 : ∀ x ∈ p0, x.block < W.heap.size := by obtain ⟨m, hm⟩ := k0; exact DataW.trod_lt m _ _ _ hm
  obtain ⟨A0, c0, s0, hc0, hR0⟩ : ∃ A c s, cs0 = (st12C (.slice A s.ws.length c) s).toArray ∧ Foot (fun w => RInts w (.slice A s.ws.length c) s.ws) W All := by
    obtain ⟨fuel, hf⟩ := h0
    obtain ⟨s, hs, _, _⟩ := rd_st12 hf
    obtain ⟨A, c, e, hR⟩ := St12C.open_ hs
    exact ⟨A, c, s, by rw [← e]; simp [Value.cells], hR⟩
  subst hc0
  clear hA0 hval0
  refine (gateNil_walk hR0).mono fun e W' ⟨he, hE⟩ => ?_
  subst he
  have bel : Below W.heap.size W W' := hE.below
  exact ⟨_, rfl, _, _, _, [], _, [], hW', trodAll_mk1 (shut_bool Try.underlying4 _), (trodAll_cons_mk (Below.trod laidOut (by kernel_rfl) (of_decide_eq_true (by kernel_rfl)) k0 bel lt0) trodAll_mk0), rfl, bel.frame _, fun h => by cases h⟩
theorem closed : joinedFacts Try.prog 12 Try.f12 Rows.gateNilSpec Rows.gateNilRow = true := by
  unfold joinedFacts
  rw [jEnter, jLift, jMake]
  kernel_rfl
theorem over : Rows.gateNilRow.holds Try.pinned (OpenSpec.ofChange Rows.gateNilSpec) :=
  OpenClaim.holds_of_wide 12 Try.f12 rfl rfl rfl rfl rfl rfl rfl ⟨rfl, rfl, rfl, rfl, rfl⟩ rfl rfl rfl rfl rfl (by kernel_rfl) Try.func12 closed
    (of_decide_eq_true (by kernel_rfl)) (by unfold Func.isWrapper; first | (rw [if_pos (by decide +kernel)]; kernel_rfl) | (rw [if_neg (by decide +kernel)]; exact ⟨rfl, rfl⟩))
    (fun os started H enc _ => lifted os started H enc)
theorem proved : Rows.GateNilSaid := over
#print axioms proved
end Go.Proofs.Ytmkpbbdocndfbaa.gateNil
namespace Go.Proofs.Ytmkpbbdocndfbaa
/-- The row. -/
theorem gateNil_holds : Rows.GateNilSaid := gateNil.proved
end Go.Proofs.Ytmkpbbdocndfbaa
