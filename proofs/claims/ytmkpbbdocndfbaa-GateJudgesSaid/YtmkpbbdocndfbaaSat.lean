/- Layer 1 (sat) and its reference: what each function computes. -/
import Derived.Test.YtmkpbbdocndfbaaRet
import Derived.Test.YtmkpbbdocndfbaaFacts
namespace Go.Proofs.Ytmkpbbdocndfbaa
open Go.RowKit Go.Proofs
attribute [local irreducible] Yl JL J G GL GA GQ DR

/-! ### The plain functions -/
/-- A tick, cut. -/
def cut (n : Int) : Int := min (max n 0) 4611686018427387904
def sadd (a b : Int) : Int := min (cut a + cut b) 4611686018427387904
def ssub (a b : Int) : Int := max (cut a - cut b) 0
def smul (a b : Int) : Int := min (cut a * cut b) 4611686018427387904
theorem cut_in (n : Int) : 0 ≤ cut n ∧ cut n ≤ 4611686018427387904 := by unfold cut; omega
theorem cut_id {n : Int} (h0 : 0 ≤ n) (h1 : n ≤ 4611686018427387904) : cut n = n := by unfold cut; omega
theorem sadd_in (a b : Int) : 0 ≤ sadd a b ∧ sadd a b ≤ 4611686018427387904 := by unfold sadd; have := cut_in a; have := cut_in b; omega
theorem ssub_in (a b : Int) : 0 ≤ ssub a b ∧ ssub a b ≤ 4611686018427387904 := by unfold ssub; have := cut_in a; have := cut_in b; omega
theorem smul_in (a b : Int) : 0 ≤ smul a b ∧ smul a b ≤ 4611686018427387904 := by
  unfold smul
  have h : 0 ≤ cut a * cut b := Int.mul_nonneg (cut_in a).1 (cut_in b).1
  omega
theorem ret_eq {k : IntKind} {a b : Int} (h : a = b) : Ending.returned (.int k a) = .returned (.int k b) := by rw [h]

theorem cut_spec (n : Int) (w : World) : Calls Try.prog 125 #[.int .i64 n] w fun e w' => e = .returned (.int .i64 (cut n)) ∧ Ext No w w' := by
  refine Calls.of_G1 Try.func125 rfl Try.ntmps125 rfl ?_
  refine J.at (C := Cls w No []) ?_ (Cls.start _ _)
  repeat (first | (apply JL.y; (first | (apply Y_move; rfl) | (apply Y_assign; rfl) | (apply Y_min; rfl; rfl) | (apply Y_max; rfl; rfl)); rfl) | refine J.seq ?_ | refine J.region ?_ | refine JL.nil ?_)
  exact J.ret1 Try.func125 Try.results125 (RV.tm rfl) fun w' hw => ⟨rfl, hw.ext⟩
theorem rcut_spec (n : Int) (w : World) : Calls Try.prog 133 #[.int .i64 n] w fun e w' => e = .returned (.int .i64 (cut n)) ∧ Ext No w w' := by
  refine Calls.of_G1 Try.func133 rfl Try.ntmps133 rfl ?_
  refine J.at (C := Cls w No []) ?_ (Cls.start _ _)
  repeat (first | (apply JL.y; (first | (apply Y_move; rfl) | (apply Y_assign; rfl) | (apply Y_lss; rfl; rfl)); rfl) | refine J.seq ?_ | refine J.region ?_ | refine JL.nil ?_)
  refine J.cond_d rfl (fun h => ?_) (fun h => ?_)
  · repeat (first | (apply JL.y; (apply Y_assign; rfl); rfl) | refine J.seq ?_ | refine J.region ?_ | refine JL.nil ?_)
    exact J.ret1 Try.func133 Try.results133 (RV.tm rfl) fun w' hw => ⟨ret_eq (by unfold cut; omega), hw.ext⟩
  repeat (first | (apply JL.y; (first | (apply Y_move; rfl) | (apply Y_gtr; rfl; rfl)); rfl) | refine J.seq ?_ | refine J.region ?_ | refine JL.nil ?_ | refine J.skip ?_)
  refine J.cond_d rfl (fun h => ?_) (fun h => ?_)
  · repeat (first | (apply JL.y; (apply Y_assign; rfl); rfl) | refine J.seq ?_ | refine J.region ?_ | refine JL.nil ?_)
    exact J.ret1 Try.func133 Try.results133 (RV.tm rfl) fun w' hw => ⟨ret_eq (by unfold cut; omega), hw.ext⟩
  repeat (first | (apply JL.y; (first | (apply Y_move; rfl) | (apply Y_assign; rfl)); rfl) | refine J.seq ?_ | refine J.region ?_ | refine JL.nil ?_ | refine J.skip ?_)
  exact J.ret1 Try.func133 Try.results133 (RV.tm rfl) fun w' hw => ⟨ret_eq (by unfold cut; omega), hw.ext⟩
theorem add_spec (a b : Int) (w : World) : Calls Try.prog 126 #[.int .i64 a, .int .i64 b] w fun e w' => e = .returned (.int .i64 (sadd a b)) ∧ Ext No w w' := by
  refine Calls.of_G2 Try.func126 rfl Try.ntmps126 rfl ?_
  refine J.at (C := Cls w No []) ?_ (Cls.start _ _)
  have ha := cut_in a
  have hb := cut_in b
  repeat (first | (apply JL.y; (first | (apply Y_move; rfl) | (apply Y_assign; rfl) | (apply Y_add; rfl; rfl; omega) | (apply Y_sub; rfl; rfl; omega) | (apply Y_min; rfl; rfl)); rfl) | refine J.seq ?_ | refine J.region ?_ | refine JL.nil ?_ | (apply JL.callq; rfl; rfl; (intro wc hwc; first | exact cut_spec _ _)))
  exact J.ret1 Try.func126 Try.results126 (RV.tm rfl) fun w' hw => ⟨ret_eq (by unfold sadd; omega), hw.ext⟩
theorem radd_spec (a b : Int) (w : World) : Calls Try.prog 130 #[.int .i64 a, .int .i64 b] w fun e w' => e = .returned (.int .i64 (sadd a b)) ∧ Ext No w w' := by
  refine Calls.of_G2 Try.func130 rfl Try.ntmps130 rfl ?_
  refine J.at (C := Cls w No []) ?_ (Cls.start _ _)
  have ha := cut_in a
  have hb := cut_in b
  repeat (first | (apply JL.y; (first | (apply Y_move; rfl) | (apply Y_assign; rfl) | (apply Y_gtr; rfl; rfl) | (apply Y_sub; rfl; rfl; omega)); rfl) | refine J.seq ?_ | refine J.region ?_ | refine JL.nil ?_ | (apply JL.callq; rfl; rfl; (intro wc hwc; first | exact rcut_spec _ _)))
  refine J.cond_d rfl (fun h => ?_) (fun h => ?_)
  · repeat (first | (apply JL.y; (apply Y_assign; rfl); rfl) | refine J.seq ?_ | refine J.region ?_ | refine JL.nil ?_)
    exact J.ret1 Try.func130 Try.results130 (RV.tm rfl) fun w' hw => ⟨ret_eq (by unfold sadd; omega), hw.ext⟩
  repeat (first | (apply JL.y; (first | (apply Y_move; rfl) | (apply Y_assign; rfl) | (apply Y_add; rfl; rfl; omega)); rfl) | refine J.seq ?_ | refine J.region ?_ | refine JL.nil ?_ | refine J.skip ?_)
  exact J.ret1 Try.func130 Try.results130 (RV.tm rfl) fun w' hw => ⟨ret_eq (by unfold sadd; omega), hw.ext⟩
theorem sub_spec (a b : Int) (w : World) : Calls Try.prog 161 #[.int .i64 a, .int .i64 b] w fun e w' => e = .returned (.int .i64 (ssub a b)) ∧ Ext No w w' := by
  refine Calls.of_G2 Try.func161 rfl Try.ntmps161 rfl ?_
  refine J.at (C := Cls w No []) ?_ (Cls.start _ _)
  have ha := cut_in a
  have hb := cut_in b
  repeat (first | (apply JL.y; (first | (apply Y_move; rfl) | (apply Y_assign; rfl) | (apply Y_sub; rfl; rfl; omega)); rfl) | refine J.seq ?_ | refine J.region ?_ | refine JL.nil ?_ | (apply JL.callq; rfl; rfl; (intro wc hwc; first | exact cut_spec _ _)))
  exact J.ret1 Try.func161 Try.results161 (RV.tm rfl) fun w' hw => ⟨ret_eq (by unfold ssub cut; omega), hw.ext⟩
theorem late_spec (a b : Int) (w : World) : Calls Try.prog 108 #[.int .i64 a, .int .i64 b] w fun e w' => e = .returned (.bool (decide (cut b ≤ cut a))) ∧ Ext No w w' := by
  refine Calls.of_G2 Try.func108 rfl Try.ntmps108 rfl ?_
  refine J.at (C := Cls w No []) ?_ (Cls.start _ _)
  repeat (first | (apply JL.y; (first | (apply Y_move; rfl) | (apply Y_assign; rfl) | (apply Y_geq; rfl; rfl)); rfl) | refine J.seq ?_ | refine J.region ?_ | refine JL.nil ?_ | (apply JL.callq; rfl; rfl; (intro wc hwc; first | exact cut_spec _ _)))
  exact J.ret1 Try.func108 Try.results108 (RV.tm rfl) fun w' hw => ⟨rfl, hw.ext⟩
end Go.Proofs.Ytmkpbbdocndfbaa
