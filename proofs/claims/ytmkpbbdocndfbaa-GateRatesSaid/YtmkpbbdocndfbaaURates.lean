/- empennageref01.Mul and empennageref11.Most. -/
import Derived.Test.YtmkpbbdocndfbaaULaw12b
namespace Go.Proofs.Ytmkpbbdocndfbaa
open Go.RowKit Go.Proofs
attribute [local irreducible] Yl JL J G GL GA GQ DR DRA

theorem big_mul {a b : Int} (ha : 0 < a) (h : b > (4611686018427387904 : Int).tdiv a) : 4611686018427387904 < a * b := by
  rw [Int.tdiv_eq_ediv_of_nonneg (by decide)] at h
  have h1 : ¬ b * a ≤ 4611686018427387904 := fun h2 => by have := (Int.le_ediv_iff_mul_le ha).2 h2; omega
  rw [Int.mul_comm]; omega
theorem small_mul {a b : Int} (ha : 0 < a) (h : ¬ b > (4611686018427387904 : Int).tdiv a) : a * b ≤ 4611686018427387904 := by
  rw [Int.tdiv_eq_ediv_of_nonneg (by decide)] at h
  have := (Int.le_ediv_iff_mul_le ha).1 (show b ≤ 4611686018427387904 / a by omega)
  rw [Int.mul_comm]; exact this
theorem tdiv_in {a : Int} (ha : 0 < a) : -9223372036854775808 ≤ (4611686018427387904 : Int).tdiv a ∧ (4611686018427387904 : Int).tdiv a ≤ 9223372036854775807 := by
  rw [Int.tdiv_eq_ediv_of_nonneg (by decide)]
  have h1 : (4611686018427387904 : Int) / a ≤ 4611686018427387904 := Int.ediv_le_self _ (by decide)
  have h2 : 0 ≤ (4611686018427387904 : Int) / a := Int.ediv_nonneg (by decide) (by omega)
  omega
theorem rmul_spec (a b : Int) (w : World) : Calls Try.prog 131 #[.int .i64 a, .int .i64 b] w fun e w' => e = .returned (.int .i64 (smul a b)) ∧ Ext No w w' := by
  refine Calls.of_G2 Try.func131 rfl Try.ntmps131 rfl ?_
  refine J.at (C := Cls w No []) ?_ (Cls.start _ _)
  have ha := cut_in a
  have hb := cut_in b
  have hs : smul a b = min (cut a * cut b) 4611686018427387904 := rfl
  repeat (first | (apply JL.y; (first | (apply Y_move; rfl) | (apply Y_assign; rfl) | (apply Y_gtr; rfl; rfl)); rfl) | refine J.seq ?_ | refine J.region ?_ | refine JL.nil ?_ | (apply JL.callq; rfl; rfl; (intro wc hwc; first | exact rcut_spec _ _)))
  by_cases h1 : 0 < cut a
  · have hb1 := fun h => big_mul (b := cut b) h1 h
    have hb2 := fun h => small_mul (b := cut b) h1 h
    have hn := Int.mul_nonneg ha.1 hb.1
    have hw := wrap_in (tdiv_in h1)
    rw [decide_eq_true h1]
    repeat (first | (apply JL.y; (apply Y_move; rfl); rfl) | (apply JL.guard_yes; rfl; rfl; rfl))
    apply JL.y (Y_quo rfl rfl (by omega)) rfl
    rw [hw]
    repeat (first | (apply JL.y; (first | (apply Y_gtr; rfl; rfl) | (apply Y_pick_t; rfl; rfl)); rfl) | refine JL.nil ?_ | (apply JL.guard_yes; rfl; rfl; rfl))
    refine J.cond_d rfl (fun h2 => ?_) (fun h2 => ?_)
    · have := hb1 h2
      repeat (first | (apply JL.y; (apply Y_assign; rfl); rfl) | refine J.seq ?_ | refine J.region ?_ | refine JL.nil ?_)
      exact J.ret1 Try.func131 Try.results131 (RV.tm rfl) fun w' hw => ⟨ret_eq (by omega), hw.ext⟩
    · have := hb2 h2
      repeat (first | (apply JL.y; (apply Y_move; rfl); rfl) | refine J.seq ?_ | refine J.region ?_ | refine J.skip ?_)
      apply JL.y (Y_mul rfl rfl (by omega)) rfl
      repeat (first | (apply JL.y; (apply Y_assign; rfl); rfl) | refine JL.nil ?_)
      exact J.ret1 Try.func131 Try.results131 (RV.tm rfl) fun w' hw => ⟨ret_eq (by omega), hw.ext⟩
  · have h0 : cut a = 0 := by omega
    rw [decide_eq_false h1]
    rw [h0, Int.zero_mul] at hs
    rw [h0]
    repeat (first | (apply JL.y; (first | (apply Y_move; rfl) | (apply Y_pick_f; rfl; rfl)); rfl) | refine J.seq ?_ | refine J.region ?_ | refine JL.nil ?_ | (apply JL.guard_no; rfl; rfl; rfl; rfl; rfl) | refine J.skip ?_ | refine J.cond_f rfl ?_)
    apply JL.y (Y_mul rfl rfl (by omega)) rfl
    repeat (first | (apply JL.y; (apply Y_assign; rfl); rfl) | refine JL.nil ?_)
    exact J.ret1 Try.func131 Try.results131 (RV.tm rfl) fun w' hw => ⟨ret_eq (by omega), hw.ext⟩
/-- empennageref11.Most. -/
theorem most_spec (r c n : Int) (W : World) : Calls Try.prog 62 #[.int .i64 r, .int .i64 c, .int .i64 n] W fun e w' => e = .returned (.int .i64 (sadd (cl 1 64 c) (smul (cl 0 64 r) n))) ∧ Ext No W w' := by
  refine Calls.of_G3 Try.func62 rfl Try.ntmps62 rfl ?_
  refine J.at (C := Cls W No []) ?_ (Cls.start _ _)
  repeat (first | (apply JL.y; (first | (apply Y_move; rfl) | (apply Y_assign; rfl)); rfl) | refine J.seq ?_ | refine J.region ?_ | refine JL.nil ?_ | (apply JL.callq; rfl; rfl; (intro wc hwc; first | exact rbNew_spec _ _ _)) | (apply JL.alloc; rfl; rfl; intro _))
  unfold bC
  repeat (first | refine J.seq ?_ | refine JL.nil ?_ | (apply JL.store; (apply St_W 0; rfl; rfl; rfl; exact inferInstance; rfl; rfl; (first | (focus (simp [Value.oneCell']; done)) | (simp [Value.oneCell']; assumption) | (simp [Value.oneCell']; exact ⟨by assumption, by assumption⟩)); (first | (focus (simp only [List.set_cons_zero]; done)) | (simp only [List.set_cons_zero]; rfl)))))
  refine J.draw (S := Cls W No [_]) [] #[false, false, false, false, false, false, false, false] rfl rfl (fun w hw => hw.drew) (fun w hS => ?_)
  (apply DR.pure 0 #[true, false, false, false, false, false, false, false]; rfl; kernel_rfl; (apply Y_fieldAddr; rfl; rfl); rfl)
  (apply DR.take 1 #[true, true, false, false, false, false, false, false]; rfl; kernel_rfl; (first | (apply Y_load1 0; rfl; rfl; rfl; exact inferInstance) | (apply Y_load1 1; rfl; rfl; rfl; exact inferInstance) | (apply Y_load1 2; rfl; rfl; rfl; exact inferInstance) | (apply Y_load1 3; rfl; rfl; rfl; exact inferInstance) | (apply Y_loadW 0; rfl; rfl; exact inferInstance; rfl) | (apply Y_loadW 1; rfl; rfl; exact inferInstance; rfl) | (apply Y_loadW 2; rfl; rfl; exact inferInstance; rfl) | (apply Y_loadW 3; rfl; rfl; exact inferInstance; rfl)); rfl; exact hS)
  (apply DR.pure 2 #[true, true, true, false, false, false, false, false]; rfl; kernel_rfl; (apply Y_fieldAddr; rfl; rfl); rfl)
  (apply DR.take 3 #[true, true, true, true, false, false, false, false]; rfl; kernel_rfl; (first | (apply Y_load1 0; rfl; rfl; rfl; exact inferInstance) | (apply Y_load1 1; rfl; rfl; rfl; exact inferInstance) | (apply Y_load1 2; rfl; rfl; rfl; exact inferInstance) | (apply Y_load1 3; rfl; rfl; rfl; exact inferInstance) | (apply Y_loadW 0; rfl; rfl; exact inferInstance; rfl) | (apply Y_loadW 1; rfl; rfl; exact inferInstance; rfl) | (apply Y_loadW 2; rfl; rfl; exact inferInstance; rfl) | (apply Y_loadW 3; rfl; rfl; exact inferInstance; rfl)); rfl; exact hS)
  (apply DR.pure 4 #[true, true, true, true, true, false, false, false]; rfl; kernel_rfl; (apply Y_move; rfl); rfl)
  refine DR.callq 5 #[true, true, true, true, true, true, false, false] rfl (by kernel_rfl) rfl rfl rfl (rmul_spec _ _ _) (fun w' hw' => hS.ext0 hw') (fun w hE2 hS => ?_)
  refine DR.callq 6 #[true, true, true, true, true, true, true, false] rfl (by kernel_rfl) rfl rfl rfl (radd_spec _ _ _) (fun w' hw' => hS.ext0 hw') (fun w hE2 hS => ?_)
  (apply DR.pure 7 #[true, true, true, true, true, true, true, true]; rfl; kernel_rfl; (apply Y_assign; rfl); rfl)
  refine DR.done (by kernel_rfl) ?_
  refine J.at (C := Cls W No [_]) ?_ hS
  skip
  refine J.ret1 Try.func62 Try.results62 (RV.tm rfl) fun w' hw' => ⟨rfl, hw'.ext⟩
end Go.Proofs.Ytmkpbbdocndfbaa
