/- bits.Mul64, and the products of ticks. -/
import Derived.Test.YtmkpbbdocndfbaaSat
import Derived.WalkKit
import Derived.Lib.Mul64
import Derived.Laws.Bits64b
namespace Go.Proofs.Ytmkpbbdocndfbaa
open Go.RowKit Go.Proofs Go.Lib

theorem maskN (a : Nat) (ha : a < 18446744073709551616) : bits .and .u64 (a : Int) 4294967295 = ((a % 4294967296 : Nat) : Int) := by
  have h := bits_and_u64_nat a 4294967295 ha (by omega)
  have e : a &&& 4294967295 = a % 4294967296 := Nat.and_two_pow_sub_one_eq_mod a 32
  rw [e] at h
  exact h
theorem divN (a : Nat) : (a : Int) / 4294967296 = ((a / 4294967296 : Nat) : Int) := by omega
theorem mulN (a b : Nat) : (a : Int) * (b : Int) = ((a * b : Nat) : Int) := (Int.natCast_mul a b).symm
theorem addN (a b : Nat) : (a : Int) + (b : Int) = ((a + b : Nat) : Int) := (Int.natCast_add a b).symm
theorem wrapN (a : Nat) (ha : a < 18446744073709551616) : IntKind.u64.wrap (a : Int) = (a : Int) := by rw [IntKind.wrap_u64]; omega
theorem wrapM (a : Nat) : IntKind.u64.wrap (a : Int) = ((a % 18446744073709551616 : Nat) : Int) := by rw [IntKind.wrap_u64]; omega
set_option maxHeartbeats 1000000 in
/-- The walk of the guide's shelf over this program. -/
theorem mul64_spec (x y : Nat) (hx : x < 18446744073709551616) (hy : y < 18446744073709551616) (w : World) :
    Calls Try.prog 168 #[.int .u64 x, .int .u64 y] w fun e w' => e = .returned (.tuple #[.int .u64 ((x * y / 18446744073709551616 : Nat) : Int), .int .u64 ((x * y % 18446744073709551616 : Nat) : Int)]) ∧ w' = w := by
  obtain ⟨bd, bt, bw, hhi⟩ := Lib.mul64_hi x y hx hy
  have ba := Lib.half_mul_le (a := x / 4294967296) (b := y / 4294967296) (by omega) (by omega)
  have bb := Lib.half_mul_le (a := x / 4294967296) (b := y % 4294967296) (by omega) (by omega)
  have bc := Lib.half_mul_le (a := x % 4294967296) (b := y / 4294967296) (by omega) (by omega)
  have ba' : x / 4294967296 * (y / 4294967296) < 18446744073709551616 := by omega
  have bb' : x / 4294967296 * (y % 4294967296) < 18446744073709551616 := by omega
  have bc' : x % 4294967296 * (y / 4294967296) < 18446744073709551616 := by omega
  have bh1 : x / 4294967296 * (y / 4294967296) + (x / 4294967296 * (y % 4294967296) + x % 4294967296 * (y % 4294967296) / 4294967296) / 4294967296 < 18446744073709551616 := by omega
  have bh : x / 4294967296 * (y / 4294967296) + (x / 4294967296 * (y % 4294967296) + x % 4294967296 * (y % 4294967296) / 4294967296) / 4294967296 + ((x / 4294967296 * (y % 4294967296) + x % 4294967296 * (y % 4294967296) / 4294967296) % 4294967296 + x % 4294967296 * (y / 4294967296)) / 4294967296 < 18446744073709551616 := by omega
  go_enter Try.func168, Try.ntmps168
  go_wp2
  simp only [maskN x hx, maskN y hy, divN, mulN, addN, wrapN _ bd, wrapN _ bb', wrapN _ bt, maskN _ bt, wrapN _ bc', wrapN _ bw, wrapN _ ba', wrapN _ bh1, wrapN _ bh, wrapM (x * y)]
  rw [hhi]
  go_ret2
  exact ⟨rfl, rfl⟩
theorem mul64_q (a b : Int) (ha : 0 ≤ a ∧ a ≤ 4611686018427387904) (hb : 0 ≤ b ∧ b ≤ 4611686018427387904) (w : World) :
    Calls Try.prog 168 #[.int .u64 a, .int .u64 b] w fun e w' => e = .returned (.tuple #[.int .u64 (a * b / 18446744073709551616), .int .u64 (a * b % 18446744073709551616)]) ∧ Ext No w w' := by
  obtain ⟨x, rfl⟩ := Int.eq_ofNat_of_zero_le ha.1
  obtain ⟨y, rfl⟩ := Int.eq_ofNat_of_zero_le hb.1
  refine (mul64_spec x y (by omega) (by omega) w).mono fun e w' ⟨h1, h2⟩ => ⟨?_, by rw [h2]; exact .refl _ _⟩
  rw [h1]
  congr 1
attribute [local irreducible] Yl JL J G GL GA GQ DR
theorem mul_spec (a b : Int) (w : World) : Calls Try.prog 162 #[.int .i64 a, .int .i64 b] w fun e w' => e = .returned (.int .i64 (smul a b)) ∧ Ext No w w' := by
  refine Calls.of_G2 Try.func162 rfl Try.ntmps162 rfl ?_
  refine J.at (C := Cls w No []) ?_ (Cls.start _ _)
  have ha := cut_in a
  have hb := cut_in b
  have hp : 0 ≤ cut a * cut b := Int.mul_nonneg ha.1 hb.1
  have hs : smul a b = min (cut a * cut b) 4611686018427387904 := rfl
  obtain ⟨p, hpe⟩ : ∃ p, p = cut a * cut b := ⟨_, rfl⟩
  have hM : ∀ w, Calls Try.prog 168 #[.int .u64 (cut a), .int .u64 (cut b)] w fun e w' => e = .returned (.tuple #[.int .u64 (p / 18446744073709551616), .int .u64 (p % 18446744073709551616)]) ∧ Ext No w w' := by rw [hpe]; exact mul64_q _ _ ha hb
  rw [← hpe] at hs hp
  repeat (first | (apply JL.y; (first | (apply Y_move; rfl) | (apply Y_assign; rfl) | (apply Y_extract; rfl; rfl) | (apply Y_gtr; rfl; rfl) | (apply Y_convU; rfl; omega)); rfl) | refine J.seq ?_ | refine J.region ?_ | refine JL.nil ?_ | (apply JL.callq; rfl; rfl; (intro wc hwc; first | exact cut_spec _ _ | exact hM _)))
  by_cases h1 : 0 < p / 18446744073709551616
  · rw [decide_eq_true h1]
    repeat (first | (apply JL.y; (apply Y_pick_t; rfl; rfl); rfl) | refine JL.nil ?_ | (apply JL.guard_no; rfl; rfl; rfl; rfl; rfl))
    apply J.cond_t rfl
    repeat (first | (apply JL.y; (apply Y_assign; rfl); rfl) | refine J.seq ?_ | refine J.region ?_ | refine JL.nil ?_)
    exact J.ret1 Try.func162 Try.results162 (RV.tm rfl) fun w' hw => ⟨ret_eq (by omega), hw.ext⟩
  rw [decide_eq_false h1]
  repeat (first | (apply JL.y; (first | (apply Y_move; rfl) | (apply Y_gtr; rfl; rfl) | (apply Y_pick_f; rfl; rfl)); rfl) | refine JL.nil ?_ | (apply JL.guard_yes; rfl; rfl; rfl))
  refine J.cond_d rfl (fun h2 => ?_) (fun h2 => ?_)
  · repeat (first | (apply JL.y; (apply Y_assign; rfl); rfl) | refine J.seq ?_ | refine J.region ?_ | refine JL.nil ?_)
    exact J.ret1 Try.func162 Try.results162 (RV.tm rfl) fun w' hw => ⟨ret_eq (by omega), hw.ext⟩
  repeat (first | (apply JL.y; (first | (apply Y_move; rfl) | (apply Y_assign; rfl) | (apply Y_convI; rfl; omega)); rfl) | refine J.seq ?_ | refine J.region ?_ | refine JL.nil ?_ | refine J.skip ?_)
  exact J.ret1 Try.func162 Try.results162 (RV.tm rfl) fun w' hw => ⟨ret_eq (by omega), hw.ext⟩
end Go.Proofs.Ytmkpbbdocndfbaa
