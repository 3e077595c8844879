/- bits.Mul64, and the products of ticks. -/
import Derived.Test.YtmkpbbdocndfbaaUBB
import Derived.WalkKit
import Derived.Lib.Mul64
import Derived.Laws.Bits64b
import Derived.Test.YtmkpbbdocndfbaaUBE
namespace Go.Proofs.Ytmkpbbdocndfbaa
open Go.RowKit Go.Proofs Go.Lib

theorem maskN (a : Nat) (ha : a < 18446744073709551616) : bits .and .u64 (a : Int) 4294967295 = ((a % 4294967296 : Nat) : Int) := by
  have h := bits_and_u64_nat a 4294967295 ha (by omega)
  have e : a &&& 4294967295 = a % 4294967296 := Nat.and_two_pow_sub_one_eq_mod a 32
  rw [e] at h
  exact h
theorem divN (a : Nat) : (a : Int) / 4294967296 = ((a / 4294967296 : Nat) : Int) := by omega
theorem mulN (a b : Nat) : (a : Int) * (b : Int) = ((a * b : Nat) : Int) := (Int.natCast_mul a b).symm
theorem addN (a b : Nat) : (a : Int) + (b : Int) = ((a + b : Nat) : Int) := (Int.natCast_add a b).symm
theorem wrapN (a : Nat) (ha : a < 18446744073709551616) : IntKind.u64.wrap (a : Int) = (a : Int) := by rw [IntKind.wrap_u64]; omega
theorem wrapM (a : Nat) : IntKind.u64.wrap (a : Int) = ((a % 18446744073709551616 : Nat) : Int) := by rw [IntKind.wrap_u64]; omega
set_option maxHeartbeats 1000000 in
/-- The walk of the guide's shelf over this program. -/
theorem mul64_spec (x y : Nat) (hx : x < 18446744073709551616) (hy : y < 18446744073709551616) (w : World) :
    Calls Try.prog 168 #[.int .u64 x, .int .u64 y] w fun e w' => e = .returned (.tuple #[.int .u64 ((x * y / 18446744073709551616 : Nat) : Int), .int .u64 ((x * y % 18446744073709551616 : Nat) : Int)]) ∧ w' = w := by
  obtain ⟨bd, bt, bw, hhi⟩ := Lib.mul64_hi x y hx hy
  have ba := Lib.half_mul_le (a := x / 4294967296) (b := y / 4294967296) (by omega) (by omega)
  have bb := Lib.half_mul_le (a := x / 4294967296) (b := y % 4294967296) (by omega) (by omega)
  have bc := Lib.half_mul_le (a := x % 4294967296) (b := y / 4294967296) (by omega) (by omega)
  have ba' : x / 4294967296 * (y / 4294967296) < 18446744073709551616 := by omega
  have bb' : x / 4294967296 * (y % 4294967296) < 18446744073709551616 := by omega
  have bc' : x % 4294967296 * (y / 4294967296) < 18446744073709551616 := by omega
  have bh1 : x / 4294967296 * (y / 4294967296) + (x / 4294967296 * (y % 4294967296) + x % 4294967296 * (y % 4294967296) / 4294967296) / 4294967296 < 18446744073709551616 := by omega
  have bh : x / 4294967296 * (y / 4294967296) + (x / 4294967296 * (y % 4294967296) + x % 4294967296 * (y % 4294967296) / 4294967296) / 4294967296 + ((x / 4294967296 * (y % 4294967296) + x % 4294967296 * (y % 4294967296) / 4294967296) % 4294967296 + x % 4294967296 * (y / 4294967296)) / 4294967296 < 18446744073709551616 := by omega
  go_enter Try.func168, Try.ntmps168
  go_wp2
  simp only [maskN x hx, maskN y hy, divN, mulN, addN, wrapN _ bd, wrapN _ bb', wrapN _ bt, maskN _ bt, wrapN _ bc', wrapN _ bw, wrapN _ ba', wrapN _ bh1, wrapN _ bh, wrapM (x * y)]
  rw [hhi]
  go_ret2
  exact ⟨rfl, rfl⟩
theorem mul64_q (a b : Int) (ha : 0 ≤ a ∧ a ≤ 4611686018427387904) (hb : 0 ≤ b ∧ b ≤ 4611686018427387904) (w : World) :
    Calls Try.prog 168 #[.int .u64 a, .int .u64 b] w fun e w' => e = .returned (.tuple #[.int .u64 (a * b / 18446744073709551616), .int .u64 (a * b % 18446744073709551616)]) ∧ Ext No w w' := by
  obtain ⟨x, rfl⟩ := Int.eq_ofNat_of_zero_le ha.1
  obtain ⟨y, rfl⟩ := Int.eq_ofNat_of_zero_le hb.1
  refine (mul64_spec x y (by omega) (by omega) w).mono fun e w' ⟨h1, h2⟩ => ⟨?_, by rw [h2]; exact .refl _ _⟩
  rw [h1]
  congr 1
attribute [local irreducible] Yl JL J G GL GA GQ DR
theorem mul_spec (a b : Int) (w : World) : Calls Try.prog 162 #[.int .i64 a, .int .i64 b] w fun e w' => e = .returned (.int .i64 (smul a b)) ∧ Ext No w w' := by
  refine Calls.of_G2 Try.func162 rfl Try.ntmps162 rfl ?_
  refine J.at (C := Cls w No []) ?_ (Cls.start _ _)
  have ha := cut_in a
  have hb := cut_in b
  have hp : 0 ≤ cut a * cut b := Int.mul_nonneg ha.1 hb.1
  have hs : smul a b = min (cut a * cut b) 4611686018427387904 := rfl
  obtain ⟨p, hpe⟩ : ∃ p, p = cut a * cut b := ⟨_, rfl⟩
  have hM : ∀ w, Calls Try.prog 168 #[.int .u64 (cut a), .int .u64 (cut b)] w fun e w' => e = .returned (.tuple #[.int .u64 (p / 18446744073709551616), .int .u64 (p % 18446744073709551616)]) ∧ Ext No w w' := by rw [hpe]; exact mul64_q _ _ ha hb
  rw [← hpe] at hs hp
  repeat (first | (apply JL.y; (first | (apply Y_move; rfl) | (apply Y_assign; rfl) | (apply Y_extract; rfl; rfl) | (apply Y_gtr; rfl; rfl) | (apply Y_convU; rfl; omega)); rfl) | refine J.seq ?_ | refine J.region ?_ | refine JL.nil ?_ | (apply JL.callq; rfl; rfl; (intro wc hwc; first | exact cut_spec _ _ | exact hM _)))
  by_cases h1 : 0 < p / 18446744073709551616
  · rw [decide_eq_true h1]
    repeat (first | (apply JL.y; (apply Y_pick_t; rfl; rfl); rfl) | refine JL.nil ?_ | (apply JL.guard_no; rfl; rfl; rfl; rfl; rfl))
    apply J.cond_t rfl
    repeat (first | (apply JL.y; (apply Y_assign; rfl); rfl) | refine J.seq ?_ | refine J.region ?_ | refine JL.nil ?_)
    exact J.ret1 Try.func162 Try.results162 (RV.tm rfl) fun w' hw => ⟨ret_eq (by omega), hw.ext⟩
  rw [decide_eq_false h1]
  repeat (first | (apply JL.y; (first | (apply Y_move; rfl) | (apply Y_gtr; rfl; rfl) | (apply Y_pick_f; rfl; rfl)); rfl) | refine JL.nil ?_ | (apply JL.guard_yes; rfl; rfl; rfl))
  refine J.cond_d rfl (fun h2 => ?_) (fun h2 => ?_)
  · repeat (first | (apply JL.y; (apply Y_assign; rfl); rfl) | refine J.seq ?_ | refine J.region ?_ | refine JL.nil ?_)
    exact J.ret1 Try.func162 Try.results162 (RV.tm rfl) fun w' hw => ⟨ret_eq (by omega), hw.ext⟩
  repeat (first | (apply JL.y; (first | (apply Y_move; rfl) | (apply Y_assign; rfl) | (apply Y_convI; rfl; omega)); rfl) | refine J.seq ?_ | refine J.region ?_ | refine JL.nil ?_ | refine J.skip ?_)
  exact J.ret1 Try.func162 Try.results162 (RV.tm rfl) fun w' hw => ⟨ret_eq (by omega), hw.ext⟩
end Go.Proofs.Ytmkpbbdocndfbaa
/- The bucket, and the document's: what each function computes. -/
namespace Go.Proofs.Ytmkpbbdocndfbaa
open Go.RowKit Go.Proofs
attribute [local irreducible] Yl JL J G GL GA GQ DR DRA

/-! ### The plain functions -/
def bTok (r c t rd round : Int) : Int := min (t + ssub round rd * r) c
def bRnd (rd round : Int) : Int := max rd (cut round)
/-- A bucket's numbers. -/
structure BIn (r c t rd : Int) : Prop where
  hr : 0 ≤ r ∧ r ≤ 64
  hc : 1 ≤ c ∧ c ≤ 64
  ht : 0 ≤ t ∧ t ≤ c
  hrd : 0 ≤ rd ∧ rd ≤ 4611686018427387904
theorem BIn.tok {r c t rd : Int} (h : BIn r c t rd) (round : Int) : 0 ≤ bTok r c t rd round ∧ bTok r c t rd round ≤ c := by
  have := Int.mul_nonneg (ssub_in round rd).1 h.hr.1
  have := h.ht
  have := h.hc
  unfold bTok; omega
theorem BIn.rnd {r c t rd : Int} (h : BIn r c t rd) (round : Int) : 0 ≤ bRnd rd round ∧ bRnd rd round ≤ 4611686018427387904 := by
  have := cut_in round
  have := h.hrd
  unfold bRnd; omega
theorem BIn.come {r c t rd : Int} (h : BIn r c t rd) (round : Int) : BIn r c (bTok r c t rd round) (bRnd rd round) := ⟨h.hr, h.hc, h.tok round, h.rnd round⟩
theorem BIn.take {r c t rd : Int} (h : BIn r c t rd) (h0 : ¬ t = 0) : BIn r c (t - 1) rd := ⟨h.hr, h.hc, by have := h.ht; omega, h.hrd⟩
theorem come_tok {r c t rd : Int} (h : BIn r c t rd) (round : Int) : min (sadd t (smul r (ssub round rd))) c = bTok r c t rd round := by
  have hg := ssub_in round rd
  obtain ⟨g, hge⟩ : ∃ g, g = ssub round rd := ⟨_, rfl⟩
  rw [← hge] at hg
  have hr := h.hr
  have ht := h.ht
  have hc := h.hc
  unfold bTok
  rw [← hge]
  have h0 : smul r g = min (g * r) 4611686018427387904 := by unfold smul; rw [cut_id hr.1 (by omega), cut_id hg.1 hg.2, Int.mul_comm]
  have hp := Int.mul_nonneg hg.1 hr.1
  rw [h0]
  obtain ⟨p, hp2⟩ : ∃ p, p = g * r := ⟨_, rfl⟩
  rw [← hp2] at hp ⊢
  unfold sadd cut
  omega
theorem come_rnd {r c t rd : Int} (h : BIn r c t rd) (round : Int) : sadd rd (ssub round rd) = bRnd rd round := by
  have hrd := h.hrd
  have hc := cut_in round
  unfold sadd ssub bRnd
  rw [cut_id hrd.1 hrd.2]
  obtain ⟨x, hx⟩ : ∃ x, x = cut round := ⟨_, rfl⟩
  rw [← hx] at hc ⊢
  unfold cut
  omega
/-- Behind so many rounds, one by one. -/
theorem rounds_end {r c t g : Int} (hr : 0 ≤ r ∧ r ≤ 64) (hc : 1 ≤ c ∧ c ≤ 64) (ht : 0 ≤ t ∧ t ≤ c) (i : Int) (hi : i ≤ g) (h : i = g ∨ i = 64) : min (t + i * r) c = min (t + g * r) c := by
  rcases h with rfl | rfl
  · rfl
  · rcases Int.lt_or_le 0 r with h1 | h1
    · have h2 : 64 * r ≤ g * r := Int.mul_le_mul_of_nonneg_right hi hr.1
      omega
    · have : r = 0 := by omega
      subst this; simp

/-! ### The bucket -/
def bC (r c t rd : Int) : List Value := [.int .i64 r, .int .i64 c, .int .i64 t, .int .i64 rd]
/-- bucket.New. -/
theorem bNew_spec (r c : Int) (w : World) : Calls Try.prog 123 #[.int .i64 r, .int .i64 c] w fun e w' => ∃ x, e = .returned x ∧ ∃ b, x = .pointer (some ⟨b, 0, none⟩) ∧ Ext No w w' ∧ w.heap.size ≤ b ∧ BlkIn w' ⟨b, bC (cl 0 64 r) (cl 1 64 c) (cl 1 64 c) 0, 189⟩ := by
  refine Calls.of_G2 Try.func123 rfl Try.ntmps123 rfl ?_
  refine J.at (C := Cls w No []) ?_ (Cls.start _ _)
  repeat (first | (apply JL.y; (first | (apply Y_move; rfl) | (apply Y_assign; rfl) | (apply Y_min; rfl; rfl) | (apply Y_max; rfl; rfl) | (apply Y_build; rfl; exact inferInstance)); rfl) | refine J.seq ?_ | refine J.region ?_ | refine JL.nil ?_ | (apply JL.box; rfl; rfl; rfl; intro _))
  exact J.ret1 Try.func123 Try.results123 (RV.tm rfl) fun w' hw' => ⟨_, rfl, _, rfl, hw'.ext, (hw'.mine _ (.head _)).resolve_left id, hw'.has _ (.head _)⟩
/-- bucket.come. -/
theorem bCome_spec {w : World} {b : Nat} {r c t rd : Int} (hb : BlkIn w ⟨b, bC r c t rd, 189⟩) (h : BIn r c t rd) (round : Int) :
    Calls Try.prog 151 #[.pointer (some ⟨b, 0, none⟩), .int .i64 round] w fun e w' => ∃ x, e = .returned x ∧ Ext (fun k => k = b) w w' ∧ BlkIn w' ⟨b, bC r c (bTok r c t rd round) (bRnd rd round), 189⟩ := by
  refine Calls.of_G2 Try.func151 rfl Try.ntmps151 rfl ?_
  refine J.at (C := Cls w (fun k => k = b) [_]) ?_ (Cls.start1 hb)
  unfold bC
  repeat (first | (apply JL.y; (first | (apply Y_move; rfl) | (apply Y_assign; rfl) | (apply Y_fieldAddr; rfl; rfl) | (apply Y_load1 0; rfl; rfl; rfl; exact inferInstance) | (apply Y_nilCheck; rfl)); rfl) | refine J.seq ?_ | refine J.region ?_ | refine JL.nil ?_ | (apply JL.callq; rfl; rfl; (intro wc hwc; first | exact sub_spec _ _ _)))
  refine J.draw (S := Cls _ _ _) [19] #[false, false, false, false, false, false, false, false, false, false, false, false, false, false, false, false, false, false, false, false] rfl rfl (fun w hw => hw.drew) (fun w hS => ?_)
  (apply DR.pure 0 #[true, false, false, false, false, false, false, false, false, false, false, false, false, false, false, false, false, false, false, false]; rfl; kernel_rfl; (apply Y_move; rfl); rfl)
  (apply DR.pure 1 #[true, true, false, false, false, false, false, false, false, false, false, false, false, false, false, false, false, false, false, false]; rfl; kernel_rfl; (apply Y_move; rfl); rfl)
  (apply DR.pure 2 #[true, true, true, false, false, false, false, false, false, false, false, false, false, false, false, false, false, false, false, false]; rfl; kernel_rfl; (first | (apply Y_nilCheck; rfl) | (apply Y_nilCheckF; rfl)); rfl)
  (apply DR.pure 3 #[true, true, true, true, false, false, false, false, false, false, false, false, false, false, false, false, false, false, false, false]; rfl; kernel_rfl; (apply Y_fieldAddr; rfl; rfl); rfl)
  (apply DR.take 4 #[true, true, true, true, true, false, false, false, false, false, false, false, false, false, false, false, false, false, false, false]; rfl; kernel_rfl; (first | (apply Y_load1 0; rfl; rfl; rfl; exact inferInstance) | (apply Y_load1 1; rfl; rfl; rfl; exact inferInstance) | (apply Y_load1 2; rfl; rfl; rfl; exact inferInstance) | (apply Y_load1 3; rfl; rfl; rfl; exact inferInstance) | (apply Y_loadW 0; rfl; rfl; exact inferInstance; rfl) | (apply Y_loadW 1; rfl; rfl; exact inferInstance; rfl) | (apply Y_loadW 2; rfl; rfl; exact inferInstance; rfl) | (apply Y_loadW 3; rfl; rfl; exact inferInstance; rfl)); rfl; exact hS)
  (apply DR.pure 5 #[true, true, true, true, true, true, false, false, false, false, false, false, false, false, false, false, false, false, false, false]; rfl; kernel_rfl; (apply Y_move; rfl); rfl)
  (apply DR.pure 6 #[true, true, true, true, true, true, true, false, false, false, false, false, false, false, false, false, false, false, false, false]; rfl; kernel_rfl; (first | (apply Y_nilCheck; rfl) | (apply Y_nilCheckF; rfl)); rfl)
  (apply DR.pure 7 #[true, true, true, true, true, true, true, true, false, false, false, false, false, false, false, false, false, false, false, false]; rfl; kernel_rfl; (apply Y_fieldAddr; rfl; rfl); rfl)
  (apply DR.take 8 #[true, true, true, true, true, true, true, true, true, false, false, false, false, false, false, false, false, false, false, false]; rfl; kernel_rfl; (first | (apply Y_load1 0; rfl; rfl; rfl; exact inferInstance) | (apply Y_load1 1; rfl; rfl; rfl; exact inferInstance) | (apply Y_load1 2; rfl; rfl; rfl; exact inferInstance) | (apply Y_load1 3; rfl; rfl; rfl; exact inferInstance) | (apply Y_loadW 0; rfl; rfl; exact inferInstance; rfl) | (apply Y_loadW 1; rfl; rfl; exact inferInstance; rfl) | (apply Y_loadW 2; rfl; rfl; exact inferInstance; rfl) | (apply Y_loadW 3; rfl; rfl; exact inferInstance; rfl)); rfl; exact hS)
  (apply DR.pure 9 #[true, true, true, true, true, true, true, true, true, true, false, false, false, false, false, false, false, false, false, false]; rfl; kernel_rfl; (apply Y_move; rfl); rfl)
  (apply DR.pure 12 #[true, true, true, true, true, true, true, true, true, true, false, false, true, false, false, false, false, false, false, false]; rfl; kernel_rfl; (apply Y_move; rfl); rfl)
  (apply DR.pure 13 #[true, true, true, true, true, true, true, true, true, true, false, false, true, true, false, false, false, false, false, false]; rfl; kernel_rfl; (first | (apply Y_nilCheck; rfl) | (apply Y_nilCheckF; rfl)); rfl)
  (apply DR.pure 14 #[true, true, true, true, true, true, true, true, true, true, false, false, true, true, true, false, false, false, false, false]; rfl; kernel_rfl; (apply Y_fieldAddr; rfl; rfl); rfl)
  (apply DR.take 15 #[true, true, true, true, true, true, true, true, true, true, false, false, true, true, true, true, false, false, false, false]; rfl; kernel_rfl; (first | (apply Y_load1 0; rfl; rfl; rfl; exact inferInstance) | (apply Y_load1 1; rfl; rfl; rfl; exact inferInstance) | (apply Y_load1 2; rfl; rfl; rfl; exact inferInstance) | (apply Y_load1 3; rfl; rfl; rfl; exact inferInstance) | (apply Y_loadW 0; rfl; rfl; exact inferInstance; rfl) | (apply Y_loadW 1; rfl; rfl; exact inferInstance; rfl) | (apply Y_loadW 2; rfl; rfl; exact inferInstance; rfl) | (apply Y_loadW 3; rfl; rfl; exact inferInstance; rfl)); rfl; exact hS)
  refine DR.callq 10 #[true, true, true, true, true, true, true, true, true, true, true, false, true, true, true, true, false, false, false, false] rfl (by kernel_rfl) rfl rfl rfl (mul_spec _ _ _) (fun w' hw' => hS.ext0 hw') (fun w hE2 hS => ?_)
  refine DR.callq 11 #[true, true, true, true, true, true, true, true, true, true, true, true, true, true, true, true, false, false, false, false] rfl (by kernel_rfl) rfl rfl rfl (add_spec _ _ _) (fun w' hw' => hS.ext0 hw') (fun w hE2 hS => ?_)
  (apply DR.pure 16 #[true, true, true, true, true, true, true, true, true, true, true, true, true, true, true, true, true, false, false, false]; rfl; kernel_rfl; (apply Y_min; rfl; rfl); rfl)
  (apply DR.pure 17 #[true, true, true, true, true, true, true, true, true, true, true, true, true, true, true, true, true, true, false, false]; rfl; kernel_rfl; (first | (apply Y_nilCheck; rfl) | (apply Y_nilCheckF; rfl)); rfl)
  (apply DR.pure 18 #[true, true, true, true, true, true, true, true, true, true, true, true, true, true, true, true, true, true, true, false]; rfl; kernel_rfl; (apply Y_fieldAddr; rfl; rfl); rfl)
  rw [come_tok h]
  (apply DR.store 19 #[true, true, true, true, true, true, true, true, true, true, true, true, true, true, true, true, true, true, true, true]; rfl; kernel_rfl; rfl; exact hS; (apply St_1 0; rfl; rfl; exact inferInstance; rfl; rfl; rfl; rfl); intro w2 hC2)
  refine DR.done (by kernel_rfl) ?_
  refine J.at (C := Cls _ _ _) ?_ hC2
  repeat (first | (apply JL.y; (first | (apply Y_move; rfl) | (apply Y_fieldAddr; rfl; rfl) | (apply Y_load1 0; rfl; rfl; rfl; exact inferInstance) | (apply Y_nilCheck; rfl)); rfl) | refine J.region ?_ | refine JL.nil ?_ | (apply JL.callq; rfl; rfl; (intro wc hwc; first | exact add_spec _ _ _)) | (apply JL.store; (apply St_1 0; rfl; rfl; exact inferInstance; (first | rfl | assumption); rfl; rfl; (first | (focus (simp only [List.set_cons_zero, List.set_cons_succ]; done)) | (simp only [List.set_cons_zero, List.set_cons_succ]; rfl)))))
  rw [come_rnd h]
  skip
  exact J.end0 Try.func151 Try.results151 fun w' hw' => ⟨_, rfl, hw'.ext, hw'.has _ (.head _)⟩
/-- bucket.Tokens. -/
theorem bTokens_spec {w : World} {b : Nat} {r c t rd : Int} (hb : BlkIn w ⟨b, bC r c t rd, 189⟩) (h : BIn r c t rd) (round : Int) :
    Calls Try.prog 128 #[.pointer (some ⟨b, 0, none⟩), .int .i64 round] w fun e w' => e = .returned (.int .i64 (bTok r c t rd round)) ∧ Ext (fun k => k = b) w w' ∧ BlkIn w' ⟨b, bC r c (bTok r c t rd round) (bRnd rd round), 189⟩ := by
  refine Calls.of_G2 Try.func128 rfl Try.ntmps128 rfl ?_
  refine J.at (C := Cls w (fun k => k = b) [_]) ?_ (Cls.start1 hb)
  repeat (first | (apply JL.y; (first | (apply Y_move; rfl) | (apply Y_assign; rfl) | (apply Y_pnil_f; rfl)); rfl) | refine J.seq ?_ | refine J.region ?_ | refine JL.nil ?_)
  apply J.cond_f rfl
  repeat (first | (apply JL.y; (apply Y_move; rfl); rfl) | refine J.seq ?_ | refine J.region ?_ | refine J.skip ?_)
  refine JL.call _ rfl rfl (fun w1 hw1 => bCome_spec (hw1.has _ (.head _)) h round) fun w1 x w2 hw1 ⟨hE, hB⟩ => ?_
  refine GL.of_JL (C := Cls w2 (fun k => k = b) [_]) (Cls.start1 hB) ?_
  have hx := hw1.ext
  unfold bC
  repeat (first | (apply JL.y; (first | (apply Y_move; rfl) | (apply Y_assign; rfl) | (apply Y_fieldAddr; rfl; rfl) | (apply Y_load1 0; rfl; rfl; rfl; exact inferInstance) | (apply Y_nilCheck; rfl)); rfl) | refine J.seq ?_ | refine J.region ?_ | refine JL.nil ?_)
  exact J.ret1 Try.func128 Try.results128 (RV.tm rfl) fun w' hw' => ⟨rfl, (hx.trans hE).trans hw'.ext, hw'.has _ (.head _)⟩
/-- bucket.Take. -/
theorem bTake_spec {w : World} {b : Nat} {r c t rd : Int} (hb : BlkIn w ⟨b, bC r c t rd, 189⟩) (h : BIn r c t rd) (round : Int) :
    Calls Try.prog 124 #[.pointer (some ⟨b, 0, none⟩), .int .i64 round] w fun e w' => ∃ x, e = .returned x ∧ x = .bool (decide (¬ bTok r c t rd round = 0)) ∧ Ext (fun k => k = b) w w' ∧ BlkIn w' ⟨b, bC r c (if bTok r c t rd round = 0 then 0 else bTok r c t rd round - 1) (bRnd rd round), 189⟩ := by
  have ht := h.tok round
  have hc := h.hc
  refine Calls.of_G2 Try.func124 rfl Try.ntmps124 rfl ?_
  refine J.at (C := Cls w (fun k => k = b) [_]) ?_ (Cls.start1 hb)
  repeat (first | (apply JL.y; (first | (apply Y_move; rfl) | (apply Y_assign; rfl)); rfl) | refine J.seq ?_ | refine J.region ?_ | refine JL.nil ?_)
  refine JL.call (fun w1 v w2 => v = .int .i64 (bTok r c t rd round) ∧ Ext (fun k => k = b) w1 w2 ∧ BlkIn w2 ⟨b, bC r c (bTok r c t rd round) (bRnd rd round), 189⟩) rfl rfl (fun w1 hw1 => (bTokens_spec (hw1.has _ (.head _)) h round).mono fun e w' he => ⟨_, he.1, rfl, he.2⟩) fun w1 x w2 hw1 ⟨hx, hE, hB⟩ => ?_
  subst hx
  have hx := hw1.ext
  refine GL.of_JL (C := Cls w2 (fun k => k = b) [_]) (Cls.start1 hB) ?_
  unfold bC
  repeat (first | (apply JL.y; (apply Y_eql; rfl; rfl); rfl) | refine JL.nil ?_)
  refine J.cond_d rfl (fun h0 => ?_) (fun h0 => ?_)
  · repeat (first | (apply JL.y; (apply Y_assign; rfl); rfl) | refine J.seq ?_ | refine J.region ?_ | refine JL.nil ?_)
    exact J.ret1 Try.func124 Try.results124 (RV.tm rfl) fun w' hw' => ⟨_, rfl, by simp [h0], (hx.trans hE).trans hw'.ext, by rw [if_pos h0]; have := hw'.has _ (.head _); rw [h0] at this; exact this⟩
  repeat (first | (apply JL.y; (first | (apply Y_move; rfl) | (apply Y_assign; rfl) | (apply Y_fieldAddr; rfl; rfl) | (apply Y_load1 0; rfl; rfl; rfl; exact inferInstance) | (apply Y_nilCheck; rfl) | (apply Y_sub; rfl; rfl; omega)); rfl) | refine J.seq ?_ | refine J.region ?_ | refine JL.nil ?_ | (apply JL.store; (apply St_1 0; rfl; rfl; exact inferInstance; (first | rfl | assumption); rfl; rfl; (first | (focus (simp only [List.set_cons_zero, List.set_cons_succ]; done)) | (simp only [List.set_cons_zero, List.set_cons_succ]; rfl)))) | refine J.skip ?_)
  exact J.ret1 Try.func124 Try.results124 (RV.tm rfl) fun w' hw' => ⟨_, rfl, by simp [h0], (hx.trans hE).trans hw'.ext, by rw [if_neg h0]; exact hw'.has _ (.head _)⟩

/-! ### The document's -/
/-- empennageref11.New. -/
theorem rbNew_spec (r c : Int) (w : World) : Calls Try.prog 129 #[.int .i64 r, .int .i64 c] w fun e w' => e = .returned (.agg (bC (cl 0 64 r) (cl 1 64 c) (cl 1 64 c) 0).toArray) ∧ Ext No w w' := by
  refine Calls.of_G2 Try.func129 rfl Try.ntmps129 rfl ?_
  refine J.at (C := Cls w No []) ?_ (Cls.start _ _)
  repeat (first | (apply JL.y; (first | (apply Y_move; rfl) | (apply Y_assign; rfl) | (apply Y_min; rfl; rfl) | (apply Y_max; rfl; rfl) | (apply Y_build; rfl; exact inferInstance)); rfl) | refine J.seq ?_ | refine J.region ?_ | refine JL.nil ?_ | (apply JL.alloc; rfl; rfl; intro _) | (apply JL.store; (apply St_W 0; rfl; rfl; rfl; exact inferInstance; rfl; rfl; (first | (focus (simp [Value.oneCell']; done)) | (simp [Value.oneCell']; assumption) | (simp [Value.oneCell']; exact ⟨by assumption, by assumption⟩)); (first | (focus (simp only [List.set_cons_zero]; done)) | (simp only [List.set_cons_zero]; rfl)))))
  exact J.ret1 Try.func129 Try.results129 (RV.W 0 rfl rfl rfl) fun w' hw' => ⟨rfl, hw'.ext⟩
/-- empennageref11.Come. -/
theorem rbCome_spec {r c t rd : Int} (h : BIn r c t rd) (round : Int) (w : World) : Calls Try.prog 152 #[.agg (bC r c t rd).toArray, .int .i64 round] w fun e w' => e = .returned (.agg (bC r c (bTok r c t rd round) (bRnd rd round)).toArray) ∧ Ext No w w' := by
  have hr := h.hr
  have hc := h.hc
  have ht := h.ht
  have hrd := h.hrd
  have hcut := cut_in round
  have hgi := ssub_in round rd
  refine Calls.of_G2 Try.func152 rfl Try.ntmps152 rfl ?_
  refine J.at (C := Cls w No []) ?_ (Cls.start _ _)
  unfold bC
  repeat (first | (apply JL.y; (first | (apply Y_move; rfl) | (apply Y_assign; rfl)); rfl) | refine J.seq ?_ | refine J.region ?_ | refine JL.nil ?_ | (apply JL.callq; rfl; rfl; (intro wc hwc; first | exact rcut_spec _ _)) | (apply JL.box; rfl; rfl; rfl; intro _) | (apply JL.alloc; rfl; rfl; intro _) | refine J.block ?_)
  rename_i b2 b4
  refine J.intro fun wl hwl => ?_
  have b2l : w.heap.size ≤ b2 := (hwl.mine _ (.tail _ (.head _))).resolve_left id
  have b4l : w.heap.size ≤ b4 := (hwl.mine _ (.head _)).resolve_left id
  have b24 : b2 ≠ b4 := hwl.apart.1 _ (.head _)
  have hg : ssub round rd = max (cut round - rd) 0 := by unfold ssub; rw [cut_id hrd.1 hrd.2]
  refine G.loop (Inv := fun mm e wl => ∃ (i t' : Int), 0 ≤ i ∧ i ≤ 64 ∧ i ≤ ssub round rd ∧ mm = (64 - i).toNat ∧ t' = min (t + i * r) c ∧ Ext No w wl ∧ BlkIn wl ⟨b4, bC 0 0 0 0, 79⟩ ∧ BlkIn wl ⟨b2, bC r c t' rd, 79⟩ ∧ e = [(2, .pointer (some ⟨b2, 0, none⟩)), (4, .pointer (some ⟨b4, 0, none⟩)), (5, .int .i64 (cut round)), (6, .int .i64 i)])
    _ _ ⟨0, t, by omega, by omega, hgi.1, rfl, by simp; omega, hwl.ext, hwl.has _ (.head _), hwl.has _ (.tail _ (.head _)), rfl⟩ ⟨rfl, rfl, rfl, rfl, trivial⟩ ?_
  rintro mm e w1 ⟨i, t', hi0, hi64, hig, rfl, ht', hE, hB4, hB2, rfl⟩ ih
  have hp : 0 ≤ i * r := Int.mul_nonneg hi0 hr.1
  have hs1 : (i + 1) * r = i * r + r := by rw [Int.add_mul, Int.one_mul]
  refine J.at (C := Cls w1 (fun k => k = b4 ∨ k = b2) [_, _]) ?_ (Cls.start2 hB4 hB2 b24)
  unfold bC
  repeat (first | (apply JL.y; (first | (apply Y_move; rfl) | (apply Y_lss; rfl; rfl)); rfl) | refine J.seq ?_ | refine J.region ?_)
  by_cases h64 : i < 64
  · rw [decide_eq_true h64]
    repeat (first | (apply JL.y; (first | (apply Y_move; rfl) | (apply Y_fieldAddr; rfl; rfl) | (apply Y_load1 1; rfl; rfl; rfl; exact inferInstance) | (apply Y_lss; rfl; rfl) | (apply Y_add; rfl; rfl; omega) | (apply Y_pick_t; rfl; rfl)); rfl) | refine JL.nil ?_ | (apply JL.guard_yes; rfl; rfl; rfl))
    refine J.cond_d rfl (fun hlt => ?_) (fun hlt => ?_)
    · repeat (first | (apply JL.y; (first | (apply Y_move; rfl) | (apply Y_assign; rfl) | (apply Y_fieldAddr; rfl; rfl) | (apply Y_load1 1; rfl; rfl; rfl; exact inferInstance) | (apply Y_add; rfl; rfl; omega) | (apply Y_min; rfl; rfl)); rfl) | refine J.seq ?_ | refine J.region ?_ | refine JL.nil ?_ | (apply JL.store; (apply St_1 1; rfl; rfl; exact inferInstance; (first | rfl | assumption); rfl; rfl; (first | (focus (simp only [List.set_cons_zero, List.set_cons_succ]; done)) | (simp only [List.set_cons_zero, List.set_cons_succ]; rfl)))) | refine J.skip ?_ | refine J.block ?_ | refine J.inBlock ?_)
      refine J.intro fun w2 hw2 => ih (64 - (i + 1)).toNat (by omega) _ _ w2 ?_ ⟨i + 1, min (t' + r) c, by omega, by omega, by omega, rfl, by rw [ht', hs1]; omega, hE.then hw2.ext fun k h1 h2 => by omega, hw2.has _ (.head _), hw2.has _ (.tail _ (.head _)), rfl⟩
      exact ⟨rfl, rfl, rfl, rfl, trivial⟩
    · have he := rounds_end hr hc ht i hig (.inl (by omega))
      repeat (first | (apply JL.y; (first | (apply Y_move; rfl) | (apply Y_fieldAddr; rfl; rfl) | (apply Y_load1 1; rfl; rfl; rfl; exact inferInstance) | (apply Y_loadW 1; rfl; rfl; exact inferInstance; rfl) | (apply Y_max; rfl; rfl)); rfl) | refine J.seq ?_ | refine J.region ?_ | refine JL.nil ?_ | (apply JL.store; (first | (apply St_1 1; rfl; rfl; exact inferInstance; (first | rfl | assumption); rfl; rfl; (first | (focus (simp only [List.set_cons_zero, List.set_cons_succ]; done)) | (simp only [List.set_cons_zero, List.set_cons_succ]; rfl))) | (apply St_W 0; rfl; rfl; rfl; exact inferInstance; rfl; rfl; (first | (focus (simp [Value.oneCell']; done)) | (simp [Value.oneCell']; assumption) | (simp [Value.oneCell']; exact ⟨by assumption, by assumption⟩)); (first | (focus (simp only [List.set_cons_zero]; done)) | (simp only [List.set_cons_zero]; rfl))))) | (apply J.exit; rfl))
      refine J.ret1 Try.func152 Try.results152 (RV.W 0 rfl rfl rfl) fun w' hw' => ⟨?_, hE.then hw'.ext fun k h1 h2 => by omega⟩
      rw [ht', he]; rfl
  · rw [decide_eq_false h64]
    repeat (first | (apply JL.y; (apply Y_pick_f; rfl; rfl); rfl) | refine JL.nil ?_ | (apply JL.guard_no; rfl; rfl; rfl; rfl; rfl))
    apply J.cond_f rfl
    have he := rounds_end hr hc ht i hig (.inr (by omega))
    repeat (first | (apply JL.y; (first | (apply Y_move; rfl) | (apply Y_fieldAddr; rfl; rfl) | (apply Y_load1 1; rfl; rfl; rfl; exact inferInstance) | (apply Y_loadW 1; rfl; rfl; exact inferInstance; rfl) | (apply Y_max; rfl; rfl)); rfl) | refine J.seq ?_ | refine J.region ?_ | refine JL.nil ?_ | (apply JL.store; (first | (apply St_1 1; rfl; rfl; exact inferInstance; (first | rfl | assumption); rfl; rfl; (first | (focus (simp only [List.set_cons_zero, List.set_cons_succ]; done)) | (simp only [List.set_cons_zero, List.set_cons_succ]; rfl))) | (apply St_W 0; rfl; rfl; rfl; exact inferInstance; rfl; rfl; (first | (focus (simp [Value.oneCell']; done)) | (simp [Value.oneCell']; assumption) | (simp [Value.oneCell']; exact ⟨by assumption, by assumption⟩)); (first | (focus (simp only [List.set_cons_zero]; done)) | (simp only [List.set_cons_zero]; rfl))))) | (apply J.exit; rfl))
    refine J.ret1 Try.func152 Try.results152 (RV.W 0 rfl rfl rfl) fun w' hw' => ⟨?_, hE.then hw'.ext fun k h1 h2 => by omega⟩
    rw [ht', he]; rfl
/-- empennageref11.Take. -/
theorem rbTake_spec {r c t rd : Int} (h : BIn r c t rd) (round : Int) (w : World) : Calls Try.prog 132 #[.agg (bC r c t rd).toArray, .int .i64 round] w fun e w' => e = .returned (.tuple #[.agg (bC r c (if bTok r c t rd round = 0 then 0 else bTok r c t rd round - 1) (bRnd rd round)).toArray, .bool (decide (¬ bTok r c t rd round = 0))]) ∧ Ext No w w' := by
  have ht := h.tok round
  have hc := h.hc
  refine Calls.of_G2 Try.func132 rfl Try.ntmps132 rfl ?_
  refine J.at (C := Cls w No []) ?_ (Cls.start _ _)
  unfold bC
  repeat (first | (apply JL.y; (first | (apply Y_move; rfl) | (apply Y_assign; rfl) | (apply Y_loadW 1; rfl; rfl; exact inferInstance; rfl)); rfl) | refine J.seq ?_ | refine J.region ?_ | refine JL.nil ?_ | (apply JL.callq; rfl; rfl; (intro wc hwc; first | exact rbCome_spec h round _)) | (apply JL.box; rfl; rfl; rfl; intro _) | (apply JL.alloc; rfl; rfl; intro _))
  unfold bC
  repeat (first | (apply JL.y; (first | (apply Y_fieldAddr; rfl; rfl) | (apply Y_load1 1; rfl; rfl; rfl; exact inferInstance) | (apply Y_eql; rfl; rfl)); rfl) | refine J.seq ?_ | refine J.region ?_ | refine JL.nil ?_ | (apply JL.store; (apply St_W 1; rfl; rfl; rfl; exact inferInstance; rfl; rfl; (first | (focus (simp [Value.oneCell']; done)) | (simp [Value.oneCell']; assumption) | (simp [Value.oneCell']; exact ⟨by assumption, by assumption⟩)); (first | (focus (simp only [List.set_cons_zero, List.set_cons_succ]; done)) | (simp only [List.set_cons_zero, List.set_cons_succ]; rfl)))))
  refine J.cond_d rfl (fun h0 => ?_) (fun h0 => ?_)
  · repeat (first | (apply JL.y; (first | (apply Y_assign; rfl) | (apply Y_loadW 1; rfl; rfl; exact inferInstance; rfl)); rfl) | refine J.seq ?_ | refine J.region ?_ | refine JL.nil ?_ | (apply JL.store; (apply St_W 0; rfl; rfl; rfl; exact inferInstance; rfl; rfl; (first | (focus (simp [Value.oneCell']; done)) | (simp [Value.oneCell']; assumption) | (simp [Value.oneCell']; exact ⟨by assumption, by assumption⟩)); (first | (focus (simp only [List.set_cons_zero]; done)) | (simp only [List.set_cons_zero]; rfl)))))
    refine J.ret2 Try.func132 Try.results132 (RV.W 0 rfl rfl rfl) (RV.tm rfl) fun w' hw' => ⟨?_, hw'.ext⟩
    simp [h0]
  repeat (first | (apply JL.y; (first | (apply Y_assign; rfl) | (apply Y_fieldAddr; rfl; rfl) | (apply Y_load1 1; rfl; rfl; rfl; exact inferInstance) | (apply Y_loadW 1; rfl; rfl; exact inferInstance; rfl) | (apply Y_sub; rfl; rfl; omega)); rfl) | refine J.seq ?_ | refine J.region ?_ | refine JL.nil ?_ | (apply JL.store; (first | (apply St_1 1; rfl; rfl; exact inferInstance; (first | rfl | assumption); rfl; rfl; (first | (focus (simp only [List.set_cons_zero, List.set_cons_succ]; done)) | (simp only [List.set_cons_zero, List.set_cons_succ]; rfl))) | (apply St_W 0; rfl; rfl; rfl; exact inferInstance; rfl; rfl; (first | (focus (simp [Value.oneCell']; done)) | (simp [Value.oneCell']; assumption) | (simp [Value.oneCell']; exact ⟨by assumption, by assumption⟩)); (first | (focus (simp only [List.set_cons_zero]; done)) | (simp only [List.set_cons_zero]; rfl))))) | refine J.skip ?_)
  refine J.ret2 Try.func132 Try.results132 (RV.W 0 rfl rfl rfl) (RV.tm rfl) fun w' hw' => ⟨?_, hw'.ext⟩
  simp [h0]
end Go.Proofs.Ytmkpbbdocndfbaa
/- How messages are judged, by the gate and by the document. -/
namespace Go.Proofs.Ytmkpbbdocndfbaa
open Go.RowKit Go.Proofs
attribute [local irreducible] Yl JL J G GL GA GQ DR DRA

/-- A channel. -/
structure Ch where
  kind : Int
  from_ : Int
  to : Int
  words : Int
  refresh : Int
  lanes : Int
  depth : Int
  hold : Int
  life : Int
  rate : Int
  cap : Int
def chC (k : Ch) : List Value := [.int .i64 k.kind, .int .i64 k.from_, .int .i64 k.to, .int .i64 k.words, .int .i64 k.refresh, .int .i64 k.lanes, .int .i64 k.depth, .int .i64 k.hold, .int .i64 k.life, .int .i64 k.rate, .int .i64 k.cap]
def odd (n : Int) : Bool := decide (n < 0) || decide (2147483647 < n)
def judge (k : Ch) (mode lane : Int) (ws : List Int) : Int :=
  if ¬ mode = 0 then 5 else if ¬ k.kind = 1 then 4 else if lane < 0 ∨ k.lanes ≤ lane ∨ ws.length = 0 ∨ k.words < ws.length ∨ ws.any odd = true then 3 else 0
theorem judge0 {lane ln wd : Int} {n : Nat} {b : Bool} (h1 : ¬ lane < 0) (h2 : ¬ ln ≤ lane) (h3 : ¬ n = 0) (h4 : ¬ wd < n) (h5 : b = false) : (if lane < 0 ∨ ln ≤ lane ∨ n = 0 ∨ wd < n ∨ b = true then (3 : Int) else 0) = 0 :=
  if_neg (fun h => by rcases h with h | h | h | h | h <;> first | omega | (subst h5; cases h))
/-- The test that Judge hands over. -/
theorem odd_spec (n : Int) (w : World) : Calls Try.prog 121 #[.int .i64 n] w fun e w' => e = .returned (.bool (odd n)) ∧ Ext No w w' := by
  refine Calls.of_G1 Try.func121 rfl Try.ntmps121 rfl ?_
  refine J.at (C := Cls w No []) ?_ (Cls.start _ _)
  repeat (first | (apply JL.y; (first | (apply Y_move; rfl) | (apply Y_assign; rfl) | (apply Y_lss; rfl; rfl)); rfl) | refine J.seq ?_ | refine J.region ?_ | refine JL.nil ?_)
  by_cases h : n < 0
  · rw [decide_eq_true h]
    repeat (first | (apply JL.y; (first | (apply Y_assign; rfl) | (apply Y_pick_t; rfl; rfl)); rfl) | refine JL.nil ?_ | (apply JL.guard_no; rfl; rfl; rfl; rfl; rfl))
    exact J.ret1 Try.func121 Try.results121 (RV.tm rfl) fun w' hw => ⟨by simp [odd, h], hw.ext⟩
  · rw [decide_eq_false h]
    repeat (first | (apply JL.y; (first | (apply Y_move; rfl) | (apply Y_assign; rfl) | (apply Y_gtr; rfl; rfl) | (apply Y_pick_f; rfl; rfl)); rfl) | refine JL.nil ?_ | (apply JL.guard_yes; rfl; rfl; rfl))
    exact J.ret1 Try.func121 Try.results121 (RV.tm rfl) fun w' hw => ⟨by simp [odd, h], hw.ext⟩
theorem any_snoc {xs : List Int} {i : Nat} {x : Int} (h : xs[i]? = some x) (p : Int → Bool) : (xs.take (i + 1)).any p = ((xs.take i).any p || p x) := by rw [take_snoc h]; simp
/-- slices.IndexFunc by that test. -/
theorem indexOdd_spec {w : World} {ok : Nat → Prop} {v : Value} {xs : List Int} (h : Foot (fun w => RInts w v xs) w ok) :
    Calls Try.prog 150 #[v, .func (.func 121) #[] #[]] w fun e w' => ∃ r, e = .returned r ∧ ∃ i : Int, r = .int .i64 i ∧ decide (0 ≤ i) = xs.any odd ∧ Ext No w w' := by
  obtain ⟨A, c, rfl, hc, hm⟩ := h.now.slice
  refine Calls.of_G2 Try.func150 rfl Try.ntmps150 rfl ?_
  refine J.at (C := Cls w No []) ?_ (Cls.start _ _)
  repeat (first | (apply JL.y; (first | (apply Y_move; rfl) | (apply Y_assign; rfl) | (apply Y_len; rfl)); rfl) | refine J.seq ?_ | refine J.region ?_ | refine JL.nil ?_ | refine J.block ?_)
  refine J.intro fun wl hwl => G.loop (Inv := fun m e wl => ∃ i : Nat, i ≤ xs.length ∧ m = xs.length - i ∧ (xs.take i).any odd = false ∧ Ext No w wl ∧ e = [(0, .slice A xs.length c), (1, .func (.func 121) #[] #[]), (7, .int .i64 xs.length), (8, .int .i64 i)])
    _ _ ⟨0, Nat.zero_le _, rfl, by simp, hwl.ext, rfl⟩ ⟨rfl, rfl, rfl, rfl, trivial⟩ ?_
  rintro m e w1 ⟨i, hi, rfl, hno, hE, rfl⟩ ih
  refine J.at (C := Cls w1 No []) ?_ (Cls.start _ _)
  repeat (first | (apply JL.y; (apply Y_lss; rfl; rfl); rfl) | refine J.seq ?_ | refine J.region ?_ | refine JL.nil ?_)
  refine J.cond_d rfl (fun hlt => ?_) (fun hlt => ?_)
  · have hil : i < xs.length := by omega
    have hx : xs[i]? = some xs[i] := List.getElem?_eq_getElem hil
    obtain ⟨ad, rfl⟩ := h.now.ad hx
    have l1 := (RInts.lds h hx).ext0 hE
    unfold maxLen at hm
    repeat (first | (apply JL.y; (first | (apply Y_move; rfl) | (apply Y_assign; rfl)); rfl) | refine J.seq ?_ | refine J.region ?_ | refine JL.nil ?_ | refine J.skip ?_ | refine J.block ?_)
    apply JL.y (Y_indexAddr rfl rfl (by omega)) rfl
    apply JL.y (Y_loadP rfl fun w hw => l1.at_ hw.ext fun _ _ _ h => h) rfl
    repeat (first | refine JL.nil ?_ | (apply JL.callqC; rfl; exact inferInstance; rfl; rfl; (intro wc hwc; first | exact odd_spec _ _)))
    cases ho : odd xs[i] with
    | true =>
      apply J.cond_t rfl
      repeat (first | (apply JL.y; (first | (apply Y_move; rfl) | (apply Y_assign; rfl)); rfl) | refine J.seq ?_ | refine J.region ?_ | refine JL.nil ?_)
      refine J.ret1 Try.func150 Try.results150 (RV.tm rfl) fun w' hw => ⟨_, rfl, (i : Int), rfl, ?_, hE.trans hw.ext⟩
      rw [List.any_eq_true.2 ⟨_, List.getElem_mem hil, ho⟩]
      exact decide_eq_true (by omega)
    | false =>
      apply J.cond_f rfl
      repeat (first | (apply JL.y; (first | (apply Y_move; rfl) | (apply Y_add; rfl; rfl; omega)); rfl) | refine J.region ?_ | refine JL.nil ?_ | refine J.skip ?_ | refine J.inBlock ?_)
      refine J.intro fun w2 hw2 => ih (xs.length - (i + 1)) (by omega) _ _ w2 ?_ ⟨i + 1, hil, rfl, by rw [any_snoc hx, hno, ho]; rfl, hE.trans hw2.ext, rfl⟩
      exact ⟨rfl, rfl, rfl, rfl, trivial⟩
  · repeat (first | (apply JL.y; (apply Y_assign; rfl); rfl) | refine J.seq ?_ | refine J.region ?_ | refine JL.nil ?_ | (apply J.exit; rfl))
    refine J.ret1 Try.func150 Try.results150 (RV.tm rfl) fun w' hw => ⟨_, rfl, (-1 : Int), rfl, ?_, hE.trans hw.ext⟩
    rw [List.take_of_length_le (by omega)] at hno
    rw [hno]; rfl
/-- slices.ContainsFunc by that test. -/
theorem hasOdd_spec {w : World} {ok : Nat → Prop} {v : Value} {xs : List Int} (h : Foot (fun w => RInts w v xs) w ok) :
    Calls Try.prog 122 #[v, .func (.func 121) #[] #[]] w fun e w' => e = .returned (.bool (xs.any odd)) ∧ Ext No w w' := by
  refine Calls.of_G2 Try.func122 rfl Try.ntmps122 rfl ?_
  refine J.at (C := Cls w No []) ?_ (Cls.start _ _)
  repeat (first | (apply JL.y; (first | (apply Y_move; rfl) | (apply Y_assign; rfl)); rfl) | refine J.seq ?_ | refine J.region ?_ | refine JL.nil ?_)
  refine JL.call _ rfl rfl (fun w1 hw1 => indexOdd_spec (h.ext0 hw1.ext)) fun w1 r w2 hw1 ⟨i, hr, hd, hE⟩ => ?_
  subst hr
  have hx := hw1.ext.trans hE
  refine GL.of_JL (C := Cls w2 No []) (Cls.start _ _) ?_
  repeat (first | (apply JL.y; (first | (apply Y_assign; rfl) | (apply Y_geq; rfl; rfl)); rfl) | refine JL.nil ?_)
  exact J.ret1 Try.func122 Try.results122 (RV.tm rfl) fun w' hw => ⟨ret_bool hd, hx.trans hw.ext⟩
set_option maxHeartbeats 1000000 in
/-- gate.Judge. -/
theorem judge_spec {w : World} {ok : Nat → Prop} {v : Value} {xs : List Int} (k : Ch) (mode lane : Int) (h : Foot (fun w => RInts w v xs) w ok) :
    Calls Try.prog 50 #[.agg (chC k).toArray, .int .i64 mode, .int .i64 lane, v] w fun e w' => e = .returned (.int .i64 (judge k mode lane xs)) ∧ Ext No w w' := by
  obtain ⟨A, c, rfl, hc, hm⟩ := h.now.slice
  refine Calls.of_G4 Try.func50 rfl Try.ntmps50 rfl ?_
  refine J.at (C := Cls w No []) ?_ (Cls.start _ _)
  unfold chC
  repeat (first | (apply JL.y; (first | (apply Y_move; rfl) | (apply Y_assign; rfl) | (apply Y_eql; rfl; rfl) | (apply Y_neq; rfl; rfl)); rfl) | refine J.seq ?_ | refine J.region ?_ | refine JL.nil ?_ | (apply JL.box; rfl; rfl; rfl; intro _) | refine J.cond_t rfl ?_ | refine J.block ?_ | (apply J.exit; rfl))
  refine J.cond_d rfl (fun h1 => ?_) (fun h1 => ?_)
  · repeat (first | (apply JL.y; (apply Y_assign; rfl); rfl) | refine J.seq ?_ | refine J.region ?_ | refine JL.nil ?_)
    exact J.ret1 Try.func50 Try.results50 (RV.tm rfl) fun w' hw => ⟨ret_eq (by rw [judge, if_pos h1]), hw.ext⟩
  have e1 : judge k mode lane xs = if ¬ k.kind = 1 then 4 else if lane < 0 ∨ k.lanes ≤ lane ∨ xs.length = 0 ∨ k.words < xs.length ∨ xs.any odd = true then 3 else 0 := by rw [judge, if_neg h1]
  rw [e1]
  repeat (first | (apply JL.y; (first | (apply Y_fieldAddr; rfl; rfl) | (apply Y_load1 0; rfl; rfl; rfl; exact inferInstance) | (apply Y_neq; rfl; rfl)); rfl) | refine J.seq ?_ | refine J.region ?_ | refine JL.nil ?_ | refine J.skip ?_ | refine J.inBlock ?_)
  refine J.cond_d rfl (fun h2 => ?_) (fun h2 => ?_)
  · repeat (first | (apply JL.y; (apply Y_assign; rfl); rfl) | refine J.seq ?_ | refine J.region ?_ | refine JL.nil ?_)
    exact J.ret1 Try.func50 Try.results50 (RV.tm rfl) fun w' hw => ⟨ret_eq (by rw [if_pos h2]), hw.ext⟩
  rw [if_neg h2]
  repeat (first | (apply JL.y; (first | (apply Y_move; rfl) | (apply Y_assign; rfl) | (apply Y_lss; rfl; rfl)); rfl) | refine J.seq ?_ | refine J.region ?_ | refine JL.nil ?_ | refine J.skip ?_ | refine J.inBlock ?_)
  by_cases h3 : lane < 0
  · rw [decide_eq_true h3]
    repeat (first | (apply JL.y; (first | (apply Y_move; rfl) | (apply Y_assign; rfl) | (apply Y_pick_t; rfl; rfl)); rfl) | refine J.seq ?_ | refine J.region ?_ | refine JL.nil ?_ | (apply JL.guard_no; rfl; rfl; rfl; rfl; rfl) | refine J.cond_t rfl ?_)
    exact J.ret1 Try.func50 Try.results50 (RV.tm rfl) fun w' hw => ⟨ret_eq (by rw [if_pos (.inl h3)]), hw.ext⟩
  rw [decide_eq_false h3]
  repeat (first | (apply JL.y; (first | (apply Y_move; rfl) | (apply Y_fieldAddr; rfl; rfl) | (apply Y_load1 0; rfl; rfl; rfl; exact inferInstance) | (apply Y_geq; rfl; rfl) | (apply Y_pick_f; rfl; rfl)); rfl) | (apply JL.guard_yes; rfl; rfl; rfl))
  by_cases h4 : k.lanes ≤ lane
  · rw [decide_eq_true h4]
    repeat (first | (apply JL.y; (first | (apply Y_move; rfl) | (apply Y_assign; rfl) | (apply Y_pick_t; rfl; rfl)); rfl) | refine J.seq ?_ | refine J.region ?_ | refine JL.nil ?_ | (apply JL.guard_no; rfl; rfl; rfl; rfl; rfl) | refine J.cond_t rfl ?_)
    exact J.ret1 Try.func50 Try.results50 (RV.tm rfl) fun w' hw => ⟨ret_eq (by rw [if_pos (.inr (.inl h4))]), hw.ext⟩
  rw [decide_eq_false h4]
  repeat (first | (apply JL.y; (first | (apply Y_move; rfl) | (apply Y_len; rfl) | (apply Y_eql; rfl; rfl) | (apply Y_pick_f; rfl; rfl)); rfl) | (apply JL.guard_yes; rfl; rfl; rfl))
  by_cases h5 : (xs.length : Int) = 0
  · rw [decide_eq_true h5]
    repeat (first | (apply JL.y; (first | (apply Y_move; rfl) | (apply Y_assign; rfl) | (apply Y_pick_t; rfl; rfl)); rfl) | refine J.seq ?_ | refine J.region ?_ | refine JL.nil ?_ | (apply JL.guard_no; rfl; rfl; rfl; rfl; rfl) | refine J.cond_t rfl ?_)
    exact J.ret1 Try.func50 Try.results50 (RV.tm rfl) fun w' hw => ⟨ret_eq (by rw [if_pos (.inr (.inr (.inl (by omega))))]), hw.ext⟩
  rw [decide_eq_false h5]
  repeat (first | (apply JL.y; (first | (apply Y_move; rfl) | (apply Y_fieldAddr; rfl; rfl) | (apply Y_load1 0; rfl; rfl; rfl; exact inferInstance) | (apply Y_len; rfl) | (apply Y_gtr; rfl; rfl) | (apply Y_pick_f; rfl; rfl)); rfl) | (apply JL.guard_yes; rfl; rfl; rfl))
  by_cases h6 : k.words < xs.length
  · rw [decide_eq_true h6]
    repeat (first | (apply JL.y; (first | (apply Y_assign; rfl) | (apply Y_pick_t; rfl; rfl)); rfl) | refine J.seq ?_ | refine J.region ?_ | refine JL.nil ?_ | (apply JL.guard_no; rfl; rfl; rfl; rfl; rfl) | refine J.cond_t rfl ?_)
    exact J.ret1 Try.func50 Try.results50 (RV.tm rfl) fun w' hw => ⟨ret_eq (by rw [if_pos (.inr (.inr (.inr (.inl h6))))]), hw.ext⟩
  rw [decide_eq_false h6]
  repeat (first | (apply JL.y; (first | (apply Y_move; rfl) | (apply Y_pick_f; rfl; rfl)); rfl) | refine JL.nil ?_ | (apply JL.callq; rfl; rfl; (intro wc hwc; first | exact hasOdd_spec (h.ext0 hwc.ext))) | (apply JL.guard_yes; rfl; rfl; rfl))
  cases h7 : xs.any odd with
  | true =>
    repeat (first | (apply JL.y; (apply Y_assign; rfl); rfl) | refine J.seq ?_ | refine J.region ?_ | refine JL.nil ?_ | refine J.cond_t rfl ?_)
    exact J.ret1 Try.func50 Try.results50 (RV.tm rfl) fun w' hw => ⟨ret_eq (by rw [if_pos (.inr (.inr (.inr (.inr rfl))))]), hw.ext⟩
  | false =>
    repeat (first | (apply JL.y; (apply Y_assign; rfl); rfl) | refine J.seq ?_ | refine J.region ?_ | refine JL.nil ?_ | refine J.skip ?_ | refine J.cond_f rfl ?_ | (apply J.exit; rfl))
    exact J.ret1 Try.func50 Try.results50 (RV.tm rfl) fun w' hw => ⟨ret_eq (judge0 h3 h4 (by omega) h6 rfl).symm, hw.ext⟩
set_option maxHeartbeats 1000000 in
/-- empennageref12.Judge. -/
theorem rjudge_spec {w : World} {ok : Nat → Prop} {v : Value} {xs : List Int} (k : Ch) (mode lane : Int) (h : Foot (fun w => RInts w v xs) w ok) :
    Calls Try.prog 52 #[.agg (chC k).toArray, .int .i64 mode, .int .i64 lane, v] w fun e w' => e = .returned (.int .i64 (judge k mode lane xs)) ∧ Ext No w w' := by
  obtain ⟨A, c, rfl, hc, hm⟩ := h.now.slice
  refine Calls.of_G4 Try.func52 rfl Try.ntmps52 rfl ?_
  refine J.at (C := Cls w No []) ?_ (Cls.start _ _)
  unfold chC
  repeat (first | (apply JL.y; (first | (apply Y_move; rfl) | (apply Y_assign; rfl) | (apply Y_neq; rfl; rfl)); rfl) | refine J.seq ?_ | refine J.region ?_ | refine JL.nil ?_ | (apply JL.box; rfl; rfl; rfl; intro _))
  refine J.cond_d rfl (fun h1 => ?_) (fun h1 => ?_)
  · repeat (first | (apply JL.y; (apply Y_assign; rfl); rfl) | refine J.seq ?_ | refine J.region ?_ | refine JL.nil ?_)
    exact J.ret1 Try.func52 Try.results52 (RV.tm rfl) fun w' hw => ⟨ret_eq (by rw [judge, if_pos h1]), hw.ext⟩
  have e1 : judge k mode lane xs = if ¬ k.kind = 1 then 4 else if lane < 0 ∨ k.lanes ≤ lane ∨ xs.length = 0 ∨ k.words < xs.length ∨ xs.any odd = true then 3 else 0 := by rw [judge, if_neg h1]
  rw [e1]
  repeat (first | (apply JL.y; (first | (apply Y_fieldAddr; rfl; rfl) | (apply Y_load1 0; rfl; rfl; rfl; exact inferInstance) | (apply Y_neq; rfl; rfl)); rfl) | refine J.seq ?_ | refine J.region ?_ | refine JL.nil ?_ | refine J.skip ?_)
  refine J.cond_d rfl (fun h2 => ?_) (fun h2 => ?_)
  · repeat (first | (apply JL.y; (apply Y_assign; rfl); rfl) | refine J.seq ?_ | refine J.region ?_ | refine JL.nil ?_)
    exact J.ret1 Try.func52 Try.results52 (RV.tm rfl) fun w' hw => ⟨ret_eq (by rw [if_pos h2]), hw.ext⟩
  rw [if_neg h2]
  repeat (first | (apply JL.y; (first | (apply Y_move; rfl) | (apply Y_lss; rfl; rfl)); rfl) | refine J.seq ?_ | refine J.region ?_ | refine J.skip ?_)
  by_cases h3 : lane < 0
  · rw [decide_eq_true h3]
    repeat (first | (apply JL.y; (first | (apply Y_move; rfl) | (apply Y_assign; rfl) | (apply Y_pick_t; rfl; rfl)); rfl) | refine J.seq ?_ | refine J.region ?_ | refine JL.nil ?_ | (apply JL.guard_no; rfl; rfl; rfl; rfl; rfl) | refine J.cond_t rfl ?_)
    exact J.ret1 Try.func52 Try.results52 (RV.tm rfl) fun w' hw => ⟨ret_eq (by rw [if_pos (.inl h3)]), hw.ext⟩
  rw [decide_eq_false h3]
  repeat (first | (apply JL.y; (first | (apply Y_move; rfl) | (apply Y_fieldAddr; rfl; rfl) | (apply Y_load1 0; rfl; rfl; rfl; exact inferInstance) | (apply Y_geq; rfl; rfl) | (apply Y_pick_f; rfl; rfl)); rfl) | (apply JL.guard_yes; rfl; rfl; rfl))
  by_cases h4 : k.lanes ≤ lane
  · rw [decide_eq_true h4]
    repeat (first | (apply JL.y; (first | (apply Y_move; rfl) | (apply Y_assign; rfl) | (apply Y_pick_t; rfl; rfl)); rfl) | refine J.seq ?_ | refine J.region ?_ | refine JL.nil ?_ | (apply JL.guard_no; rfl; rfl; rfl; rfl; rfl) | refine J.cond_t rfl ?_)
    exact J.ret1 Try.func52 Try.results52 (RV.tm rfl) fun w' hw => ⟨ret_eq (by rw [if_pos (.inr (.inl h4))]), hw.ext⟩
  rw [decide_eq_false h4]
  repeat (first | (apply JL.y; (first | (apply Y_move; rfl) | (apply Y_len; rfl) | (apply Y_lss; rfl; rfl) | (apply Y_pick_f; rfl; rfl)); rfl) | (apply JL.guard_yes; rfl; rfl; rfl))
  by_cases h5 : (xs.length : Int) < 1
  · rw [decide_eq_true h5]
    repeat (first | (apply JL.y; (first | (apply Y_assign; rfl) | (apply Y_pick_t; rfl; rfl)); rfl) | refine J.seq ?_ | refine J.region ?_ | refine JL.nil ?_ | (apply JL.guard_no; rfl; rfl; rfl; rfl; rfl) | refine J.cond_t rfl ?_)
    exact J.ret1 Try.func52 Try.results52 (RV.tm rfl) fun w' hw => ⟨ret_eq (by rw [if_pos (.inr (.inr (.inl (by omega))))]), hw.ext⟩
  rw [decide_eq_false h5]
  repeat (first | (apply JL.y; (first | (apply Y_move; rfl) | (apply Y_fieldAddr; rfl; rfl) | (apply Y_load1 0; rfl; rfl; rfl; exact inferInstance) | (apply Y_len; rfl) | (apply Y_gtr; rfl; rfl) | (apply Y_pick_f; rfl; rfl)); rfl) | refine JL.nil ?_ | (apply JL.guard_yes; rfl; rfl; rfl))
  refine J.cond_d rfl (fun h6 => ?_) (fun h6 => ?_)
  · repeat (first | (apply JL.y; (apply Y_assign; rfl); rfl) | refine J.seq ?_ | refine J.region ?_ | refine JL.nil ?_)
    exact J.ret1 Try.func52 Try.results52 (RV.tm rfl) fun w' hw => ⟨ret_eq (by rw [if_pos (.inr (.inr (.inr (.inl h6))))]), hw.ext⟩
  repeat (first | (apply JL.y; (apply Y_assign; rfl); rfl) | refine J.seq ?_ | refine J.region ?_ | refine JL.nil ?_ | refine J.skip ?_ | refine J.block ?_)
  refine J.intro fun wl hwl => G.loop (Inv := fun m e wl => ∃ i : Nat, i ≤ xs.length ∧ m = xs.length - i ∧ (xs.take i).any odd = false ∧ Ext No w wl ∧ e = [(3, .slice A xs.length c), (9, .int .i64 i)])
    _ _ ⟨0, Nat.zero_le _, rfl, by simp, hwl.ext, rfl⟩ ⟨rfl, rfl, trivial⟩ ?_
  rintro m e w1 ⟨i, hi, rfl, hno, hE, rfl⟩ ih
  refine J.at (C := Cls w1 No []) ?_ (Cls.start _ _)
  repeat (first | (apply JL.y; (first | (apply Y_move; rfl) | (apply Y_len; rfl) | (apply Y_lss; rfl; rfl)); rfl) | refine J.seq ?_ | refine J.region ?_ | refine JL.nil ?_)
  refine J.cond_d rfl (fun hlt => ?_) (fun hlt => ?_)
  · have hil : i < xs.length := by omega
    have hx : xs[i]? = some xs[i] := List.getElem?_eq_getElem hil
    obtain ⟨ad, rfl⟩ := h.now.ad hx
    have l1 := (RInts.lds h hx).ext0 hE
    have hin : odd xs[i] = true → xs.any odd = true := fun ho => List.any_eq_true.2 ⟨_, List.getElem_mem hil, ho⟩
    unfold maxLen at hm
    repeat (first | (apply JL.y; (apply Y_move; rfl); rfl) | refine J.seq ?_ | refine J.region ?_ | refine J.skip ?_ | refine J.block ?_)
    apply JL.y (Y_indexAddr rfl rfl (by omega)) rfl
    apply JL.y (Y_loadP rfl fun w hw => l1.at_ hw.ext fun _ _ _ h => h) rfl
    repeat (first | (apply JL.y; (first | (apply Y_move; rfl) | (apply Y_lss; rfl; rfl)); rfl))
    by_cases ho : xs[i] < 0
    · rw [decide_eq_true ho]
      repeat (first | (apply JL.y; (first | (apply Y_assign; rfl) | (apply Y_pick_t; rfl; rfl)); rfl) | refine J.seq ?_ | refine J.region ?_ | refine JL.nil ?_ | (apply JL.guard_no; rfl; rfl; rfl; rfl; rfl) | refine J.cond_t rfl ?_)
      exact J.ret1 Try.func52 Try.results52 (RV.tm rfl) fun w' hw => ⟨ret_eq (by rw [if_pos (.inr (.inr (.inr (.inr (hin (by simp [odd, ho]))))))]), hE.trans hw.ext⟩
    rw [decide_eq_false ho]
    repeat (first | (apply JL.y; (apply Y_move; rfl); rfl) | (apply JL.guard_yes; rfl; rfl; rfl))
    apply JL.y (Y_indexAddr rfl rfl (by omega)) rfl
    repeat (first | (apply JL.guard_yes; rfl; rfl; rfl))
    apply JL.y (Y_loadP rfl fun w hw => l1.at_ hw.ext fun _ _ _ h => h) rfl
    repeat (first | (apply JL.y; (first | (apply Y_gtr; rfl; rfl) | (apply Y_pick_f; rfl; rfl)); rfl) | refine JL.nil ?_ | (apply JL.guard_yes; rfl; rfl; rfl))
    refine J.cond_d rfl (fun h8 => ?_) (fun h8 => ?_)
    · repeat (first | (apply JL.y; (apply Y_assign; rfl); rfl) | refine J.seq ?_ | refine J.region ?_ | refine JL.nil ?_)
      exact J.ret1 Try.func52 Try.results52 (RV.tm rfl) fun w' hw => ⟨ret_eq (by rw [if_pos (.inr (.inr (.inr (.inr (hin (by simp [odd, h8]))))))]), hE.trans hw.ext⟩
    · repeat (first | (apply JL.y; (first | (apply Y_move; rfl) | (apply Y_assign; rfl) | (apply Y_add; rfl; rfl; omega)); rfl) | refine J.region ?_ | refine JL.nil ?_ | refine J.skip ?_ | refine J.inBlock ?_)
      refine J.intro fun w2 hw2 => ih (xs.length - (i + 1)) (by omega) _ _ w2 ?_ ⟨i + 1, hil, rfl, by rw [any_snoc hx, hno]; simp [odd]; omega, hE.trans hw2.ext, rfl⟩
      exact ⟨rfl, rfl, trivial⟩
  · repeat (first | (apply JL.y; (apply Y_assign; rfl); rfl) | refine J.seq ?_ | refine J.region ?_ | refine JL.nil ?_ | (apply J.exit; rfl))
    refine J.ret1 Try.func52 Try.results52 (RV.tm rfl) fun w' hw => ⟨ret_eq ?_, hE.trans hw.ext⟩
    rw [List.take_of_length_le (by omega)] at hno
    rw [hno, if_neg (fun h => by rcases h with h | h | h | h | h <;> first | omega | cases h)]
end Go.Proofs.Ytmkpbbdocndfbaa
/- Channels that are right, made of any. -/
namespace Go.Proofs.Ytmkpbbdocndfbaa
open Go.RowKit Go.Proofs
attribute [local irreducible] Yl JL J G GL GA GQ DR DRA

def nearR (n least many : Int) : Int := least + (IntKind.u64.wrap n).tmod many
theorem near_in (n : Int) {least many : Int} (hm : 0 < many) : least ≤ nearR n least many ∧ nearR n least many < least + many := by
  have h1 := Int.tmod_nonneg many (wrap_u64_nonneg n)
  have h2 := Int.tmod_lt_of_pos (IntKind.u64.wrap n) hm
  unfold nearR; omega
theorem near_spec (n least many : Int) (hl : -10 ≤ least ∧ least ≤ 1000) (hm : 0 < many ∧ many ≤ 1000) (w : World) : Calls Try.prog 148 #[.int .i64 n, .int .i64 least, .int .i64 many] w fun e w' => e = .returned (.int .i64 (nearR n least many)) ∧ Ext No w w' := by
  have h1 := near_in n (least := least) hm.1
  obtain ⟨q, hq⟩ : ∃ q, q = (IntKind.u64.wrap n).tmod many := ⟨_, rfl⟩
  have hr : nearR n least many = least + q := by rw [hq]; rfl
  rw [hr] at h1 ⊢
  refine Calls.of_G3 Try.func148 rfl Try.ntmps148 rfl ?_
  refine J.at (C := Cls w No []) ?_ (Cls.start _ _)
  repeat (first | (apply JL.y; (first | (apply Y_move; rfl) | (apply Y_assign; rfl)); rfl) | refine J.seq ?_ | refine J.region ?_ | refine JL.nil ?_)
  apply JL.y (Y_conv rfl) rfl
  repeat (first | (apply JL.y; (first | (apply Y_move; rfl) | (apply Y_convU; rfl; omega)); rfl))
  apply JL.y (Y_rem rfl rfl (by omega)) rfl
  rw [← hq]
  repeat (first | (apply JL.y; (first | (apply Y_assign; rfl) | (apply Y_add; rfl; rfl; omega) | (apply Y_convI; rfl; omega)); rfl) | refine JL.nil ?_)
  exact J.ret1 Try.func148 Try.results148 (RV.tm rfl) fun w' hw => ⟨rfl, hw.ext⟩
/-- The one that is made. -/
def goodC (k : Ch) : Ch := ⟨1, nearR k.from_ 0 2, (nearR k.from_ 0 2 + nearR k.to 1 1).tmod 2, nearR k.words 1 4, 0, nearR k.lanes 1 3, nearR k.depth 1 4, nearR k.hold 1 4, nearR k.life 1 60, nearR k.rate 0 5, nearR k.cap 1 6⟩
theorem near1 : nearR 1 0 2 = 1 := by decide
theorem near0 : nearR 0 0 3 = 0 := by decide
theorem near14 : nearR 1 1 4 = 2 := by decide
set_option maxHeartbeats 1000000 in
/-- empennageref04.channel, of a queuing one, of two partitions. -/
theorem channel_spec (k : Ch) (hk : k.kind = 1) (W : World) : Calls Try.prog 149 #[.agg (chC k).toArray, .int .i64 2] W fun e w' => e = .returned (.agg (chC (goodC k)).toArray) ∧ Ext No W w' := by
  have hf := near_in k.from_ (least := 0) (many := 2) (by decide)
  have ht := near_in k.to (least := 1) (many := 2 - 1) (by decide)
  refine Calls.of_G2 Try.func149 rfl Try.ntmps149 rfl ?_
  refine J.at (C := Cls W No []) ?_ (Cls.start _ _)
  unfold chC
  rw [hk]
  repeat (first | refine J.seq ?_ | refine J.region ?_ | refine JL.nil ?_ | (apply JL.box; rfl; rfl; rfl; intro _) | (apply JL.alloc; rfl; rfl; intro _))
  rename_i b2 b4
  have hS0 : ∀ w' : World, Cls W No [⟨b4, [.int .i64 0, .int .i64 0, .int .i64 0, .int .i64 0, .int .i64 0, .int .i64 0, .int .i64 0, .int .i64 0, .int .i64 0, .int .i64 0, .int .i64 0], 61⟩, ⟨b2, [.int .i64 1, .int .i64 k.from_, .int .i64 k.to, .int .i64 k.words, .int .i64 k.refresh, .int .i64 k.lanes, .int .i64 k.depth, .int .i64 k.hold, .int .i64 k.life, .int .i64 k.rate, .int .i64 k.cap], 61⟩] w' → b4 < w'.heap.size ∧ b2 < w'.heap.size := fun w' h => ⟨(h.has _ (.head _)).lt, (h.has _ (.tail _ (.head _))).lt⟩
  refine J.intro fun w1 hw1 => ?_
  have hB4 := hw1.has _ (.head _)
  have hB2 := hw1.has _ (.tail _ (.head _))
  have b24 : b2 ≠ b4 := hw1.apart.1 _ (.head _)
  have b4l : W.heap.size ≤ b4 := hw1.fresh fun _ h => h.elim
  have b2l : W.heap.size ≤ b2 := (hw1.mine _ (.tail _ (.head _))).resolve_left id
  have u4 := hB4.lt
  have u2 := hB2.lt
  simp only at u4 u2
  refine J.at (C := Cls w1 (fun k => k = b4 ∨ k = b2) [_, _]) ?_ (Cls.start2 hB4 hB2 b24)
  refine J.draw (S := Cls _ _ _) [12] #[false, false, false, false, false, false, false, false, false, false, false, false, false] rfl rfl (fun w hw => hw.drew) (fun w hS => ?_)
  (apply DR.pure 0 #[true, false, false, false, false, false, false, false, false, false, false, false, false]; rfl; kernel_rfl; (apply Y_fieldAddr; rfl; rfl); rfl)
  (apply DR.take 1 #[true, true, false, false, false, false, false, false, false, false, false, false, false]; rfl; kernel_rfl; (first | (apply Y_load1 0; rfl; rfl; rfl; exact inferInstance) | (apply Y_load1 1; rfl; rfl; rfl; exact inferInstance) | (apply Y_load1 2; rfl; rfl; rfl; exact inferInstance) | (apply Y_load1 3; rfl; rfl; rfl; exact inferInstance) | (apply Y_loadW 0; rfl; rfl; exact inferInstance; rfl) | (apply Y_loadW 1; rfl; rfl; exact inferInstance; rfl) | (apply Y_loadW 2; rfl; rfl; exact inferInstance; rfl) | (apply Y_loadW 3; rfl; rfl; exact inferInstance; rfl)); rfl; exact hS)
  (apply DR.pure 3 #[true, true, false, true, false, false, false, false, false, false, false, false, false]; rfl; kernel_rfl; (apply Y_fieldAddr; rfl; rfl); rfl)
  (apply DR.take 4 #[true, true, false, true, true, false, false, false, false, false, false, false, false]; rfl; kernel_rfl; (first | (apply Y_load1 0; rfl; rfl; rfl; exact inferInstance) | (apply Y_load1 1; rfl; rfl; rfl; exact inferInstance) | (apply Y_load1 2; rfl; rfl; rfl; exact inferInstance) | (apply Y_load1 3; rfl; rfl; rfl; exact inferInstance) | (apply Y_loadW 0; rfl; rfl; exact inferInstance; rfl) | (apply Y_loadW 1; rfl; rfl; exact inferInstance; rfl) | (apply Y_loadW 2; rfl; rfl; exact inferInstance; rfl) | (apply Y_loadW 3; rfl; rfl; exact inferInstance; rfl)); rfl; exact hS)
  (apply DR.pure 5 #[true, true, false, true, true, true, false, false, false, false, false, false, false]; rfl; kernel_rfl; (apply Y_move; rfl); rfl)
  (apply DR.pure 7 #[true, true, false, true, true, true, false, true, false, false, false, false, false]; rfl; kernel_rfl; (apply Y_fieldAddr; rfl; rfl); rfl)
  (apply DR.take 8 #[true, true, false, true, true, true, false, true, true, false, false, false, false]; rfl; kernel_rfl; (first | (apply Y_load1 0; rfl; rfl; rfl; exact inferInstance) | (apply Y_load1 1; rfl; rfl; rfl; exact inferInstance) | (apply Y_load1 2; rfl; rfl; rfl; exact inferInstance) | (apply Y_load1 3; rfl; rfl; rfl; exact inferInstance) | (apply Y_loadW 0; rfl; rfl; exact inferInstance; rfl) | (apply Y_loadW 1; rfl; rfl; exact inferInstance; rfl) | (apply Y_loadW 2; rfl; rfl; exact inferInstance; rfl) | (apply Y_loadW 3; rfl; rfl; exact inferInstance; rfl)); rfl; exact hS)
  refine DRA.go (l' := #[true, true, false, true, true, true, false, true, true, false, false, true, false]) (w0 := w1) (d := 5) (cs := [.int .i64 0, .int .i64 0, .int .i64 0, .int .i64 0, .int .i64 0, .int .i64 0, .int .i64 0, .int .i64 0, .int .i64 0, .int .i64 0, .int .i64 0]) (t := 61) (U := No) ?_
  refine DRA.callq 11 2 #[true, true, true, true, true, true, false, true, true, false, false, false, false] #[true, true, true, true, true, true, false, true, true, false, false, true, false] rfl rfl (by kernel_rfl) (by kernel_rfl) rfl rfl rfl rfl rfl rfl rfl inferInstance rfl hS (fun _ _ h he => h.ext0 he) (fun _ h => h.ext.size) (fun _ h => h.elim) (fun w3 hE3 hS3 => near_spec _ _ _ (by omega) (by omega) _) (fun w4 hE4 hS hU => ?_)
  refine DRA.callq 11 6 #[true, true, true, true, true, true, true, true, true, false, false, false, false] #[true, true, true, true, true, true, true, true, true, false, false, true, false] rfl rfl (by kernel_rfl) (by kernel_rfl) rfl rfl rfl rfl rfl rfl rfl inferInstance rfl hS (fun _ _ h he => h.ext0 he) (fun _ h => h.ext.size) hU (fun w3 hE3 hS3 => near_spec _ _ _ (by omega) (by omega) _) (fun w4 hE4 hS hU => ?_)
  refine DRA.callq 11 9 #[true, true, true, true, true, true, true, true, true, true, false, false, false] #[true, true, true, true, true, true, true, true, true, true, false, true, false] rfl rfl (by kernel_rfl) (by kernel_rfl) rfl rfl rfl rfl rfl rfl rfl inferInstance rfl hS (fun _ _ h he => h.ext0 he) (fun _ h => h.ext.size) hU (fun w3 hE3 hS3 => near_spec _ _ _ (by omega) (by omega) _) (fun w4 hE4 hS hU => ?_)
  (apply DRA.pure 10 #[true, true, true, true, true, true, true, true, true, true, true, false, false] #[true, true, true, true, true, true, true, true, true, true, true, true, false]; rfl; kernel_rfl; kernel_rfl; (apply Y_build; rfl; exact inferInstance); rfl; rfl; rfl)
  refine DRA.end_ 11 rfl (by kernel_rfl) rfl rfl inferInstance rfl hS (fun _ _ h he => h.ext0 he) (fun _ h => h.ext.size) hU (fun b5 w7 hE7 hS b5l _ hB5 => ?_)
  (apply DR.store 12 #[true, true, true, true, true, true, true, true, true, true, true, true, true]; rfl; kernel_rfl; rfl; exact (Cls.start3 hB5 (hS.has _ (.head _)) (hS.has _ (.tail _ (.head _))) (by simp only; omega) (by simp only; omega) b24); (apply St_W 0; rfl; rfl; rfl; exact inferInstance; rfl; rfl; simp [Value.oneCell']; rfl); intro w8 hC8)
  refine DR.done (by kernel_rfl) ?_
  have hx7 := hS.ext
  refine J.at (C := Cls w7 (fun k => k = b5 ∨ k = b4 ∨ k = b2) [_, _, _]) ?_ hC8
  rw [near1]
  have hD : ∀ k, k < W.heap.size → ¬ (k = b5 ∨ k = b4 ∨ k = b2) := fun k h h' => by have := hw1.ext.size; omega
  repeat (first | refine J.seq ?_)
  refine J.draw (S := Cls _ _ _) [11] #[false, false, false, false, false, false, false, false, false, false, false, false] rfl rfl (fun w hw => hw.drew) (fun w hS => ?_)
  (apply DR.pure 0 #[true, false, false, false, false, false, false, false, false, false, false, false]; rfl; kernel_rfl; (apply Y_fieldAddr; rfl; rfl); rfl)
  (apply DR.take 1 #[true, true, false, false, false, false, false, false, false, false, false, false]; rfl; kernel_rfl; (first | (apply Y_load1 0; rfl; rfl; rfl; exact inferInstance) | (apply Y_load1 1; rfl; rfl; rfl; exact inferInstance) | (apply Y_load1 2; rfl; rfl; rfl; exact inferInstance) | (apply Y_load1 3; rfl; rfl; rfl; exact inferInstance) | (apply Y_loadW 0; rfl; rfl; exact inferInstance; rfl) | (apply Y_loadW 1; rfl; rfl; exact inferInstance; rfl) | (apply Y_loadW 2; rfl; rfl; exact inferInstance; rfl) | (apply Y_loadW 3; rfl; rfl; exact inferInstance; rfl)); rfl; exact hS)
  (apply DR.pure 2 #[true, true, true, false, false, false, false, false, false, false, false, false]; rfl; kernel_rfl; (apply Y_fieldAddr; rfl; rfl); rfl)
  (apply DR.take 3 #[true, true, true, true, false, false, false, false, false, false, false, false]; rfl; kernel_rfl; (first | (apply Y_load1 0; rfl; rfl; rfl; exact inferInstance) | (apply Y_load1 1; rfl; rfl; rfl; exact inferInstance) | (apply Y_load1 2; rfl; rfl; rfl; exact inferInstance) | (apply Y_load1 3; rfl; rfl; rfl; exact inferInstance) | (apply Y_loadW 0; rfl; rfl; exact inferInstance; rfl) | (apply Y_loadW 1; rfl; rfl; exact inferInstance; rfl) | (apply Y_loadW 2; rfl; rfl; exact inferInstance; rfl) | (apply Y_loadW 3; rfl; rfl; exact inferInstance; rfl)); rfl; exact hS)
  (apply DR.pure 4 #[true, true, true, true, true, false, false, false, false, false, false, false]; rfl; kernel_rfl; (apply Y_move; rfl); rfl)
  (apply DR.pure 5 #[true, true, true, true, true, true, false, false, false, false, false, false]; rfl; kernel_rfl; (apply Y_sub; rfl; rfl; omega); rfl)
  (apply DR.pure 8 #[true, true, true, true, true, true, false, false, true, false, false, false]; rfl; kernel_rfl; (apply Y_move; rfl); rfl)
  refine DR.callq 6 #[true, true, true, true, true, true, true, false, true, false, false, false] rfl (by kernel_rfl) rfl rfl rfl (near_spec _ _ _ (by omega) (by omega) _) (fun w' hw' => hS.ext0 hw') (fun w hE2 hS => ?_)
  (apply DR.pure 7 #[true, true, true, true, true, true, true, true, true, false, false, false]; rfl; kernel_rfl; (apply Y_add; rfl; rfl; omega); rfl)
  (apply DR.take 9 #[true, true, true, true, true, true, true, true, true, true, false, false]; rfl; kernel_rfl; exact Y_rem rfl rfl (by decide); rfl; exact hS)
  (apply DR.pure 10 #[true, true, true, true, true, true, true, true, true, true, true, false]; rfl; kernel_rfl; (apply Y_fieldAddr; rfl; rfl); rfl)
  (apply DR.store 11 #[true, true, true, true, true, true, true, true, true, true, true, true]; rfl; kernel_rfl; rfl; exact hS; (apply St_1 0; rfl; rfl; exact inferInstance; rfl; rfl; rfl; rfl); intro w9 hC9)
  refine DR.done (by kernel_rfl) ?_
  refine J.at (C := Cls w7 (fun k => k = b5 ∨ k = b4 ∨ k = b2) [_, _, _]) ?_ hC9
  repeat (first | (apply JL.y; (first | (apply Y_fieldAddr; rfl; rfl) | (apply Y_load1 0; rfl; rfl; rfl; exact inferInstance) | (apply Y_load1 2; rfl; rfl; rfl; exact inferInstance) | (apply Y_loadW 0; rfl; rfl; exact inferInstance; rfl) | (apply Y_eql; rfl; rfl)); rfl) | refine J.seq ?_ | refine J.region ?_ | refine JL.nil ?_ | (apply JL.callq; rfl; rfl; (intro wc hwc; first | exact near_spec _ _ _ (by omega) (by omega) _)) | (apply JL.store; (first | (apply St_1 0; rfl; rfl; exact inferInstance; (first | rfl | assumption); rfl; rfl; (first | (focus (simp only [List.set_cons_zero, List.set_cons_succ]; done)) | (simp only [List.set_cons_zero, List.set_cons_succ]; rfl))) | (apply St_W 1; rfl; rfl; rfl; exact inferInstance; rfl; rfl; (first | (focus (simp [Value.oneCell']; done)) | (simp [Value.oneCell']; assumption) | (simp [Value.oneCell']; exact ⟨by assumption, by assumption⟩)); (first | (focus (simp only [List.set_cons_zero, List.set_cons_succ]; done)) | (simp only [List.set_cons_zero, List.set_cons_succ]; rfl))))) | refine J.skip ?_ | refine J.cond_f rfl ?_)
  refine J.ret1 Try.func149 Try.results149 (RV.W 1 rfl rfl rfl) fun w' hw' => ⟨rfl, ((hw1.ext.then hx7 fun k h1 h2 => by omega)).then hw'.ext fun k h1 h2 => hD k h1 h2⟩
end Go.Proofs.Ytmkpbbdocndfbaa
/- Configs that are right, made of one channel. -/
namespace Go.Proofs.Ytmkpbbdocndfbaa
open Go.RowKit Go.Proofs
attribute [local irreducible] Yl JL J G GL GA GQ DR DRA

set_option maxHeartbeats 2000000 in
/-- empennageref04.Good of one partition, one channel. -/
theorem good_spec {W : World} {bk : Nat} {k : Ch} (hk : k.kind = 1) (hB : BlkIn W ⟨bk, chC k, 61⟩) :
    Calls Try.prog 120 #[.agg #[.int .i64 1, .int .i64 0, .slice none 0 0, .slice (some ⟨bk, 0, none⟩) 1 1, .slice none 0 0]] W fun e w' => ∃ r, e = .returned r ∧ Ext No W w' ∧ ∃ f wv g c av, r = .agg #[.int .i64 2, f, wv, .slice (some ⟨g, 0, none⟩) 1 c, av] ∧ f.oneCell' = true ∧ wv.oneCell' = true ∧ av.oneCell' = true ∧ Row w' 61 11 (.slice (some ⟨g, 0, none⟩) 1 c) [chC (goodC k)] := by
  have ubk := hB.lt
  simp only at ubk
  refine Calls.of_G1 Try.func120 rfl Try.ntmps120 rfl ?_
  refine J.at (C := Cls W No []) ?_ (Cls.start _ _)
  repeat (first | (apply JL.y; (first | (apply Y_assign; rfl) | (apply Y_fieldAddr; rfl; rfl) | (apply Y_load1 1; rfl; rfl; rfl; exact inferInstance) | (apply Y_build; rfl; exact inferInstance)); rfl) | refine J.seq ?_ | refine J.region ?_ | refine JL.nil ?_ | (apply JL.callq; rfl; rfl; (intro wc hwc; first | exact near_spec _ _ _ (by omega) (by omega) _)) | (apply JL.box; rfl; rfl; rfl; intro _) | (apply JL.alloc; rfl; rfl; intro _) | (apply JL.store; (apply St_W 0; rfl; rfl; rfl; exact inferInstance; rfl; rfl; (first | (focus (simp [Value.oneCell']; done)) | (simp [Value.oneCell']; assumption) | (simp [Value.oneCell']; exact ⟨by assumption, by assumption⟩)); (first | (focus (simp only [List.set_cons_zero]; done)) | (simp only [List.set_cons_zero]; rfl)))) | refine J.block ?_)
  rw [near14]
  apply J.loop1
  repeat (first | (apply JL.y; (first | (apply Y_move; rfl) | (apply Y_assign; rfl) | (apply Y_fieldAddr; rfl; rfl) | (apply Y_load1 0; rfl; rfl; rfl; exact inferInstance) | (apply Y_load1 2; rfl; rfl; rfl; exact inferInstance) | (apply Y_load1 3; rfl; rfl; rfl; exact inferInstance) | (apply Y_len; rfl) | (apply Y_eql; rfl; rfl) | (apply Y_lss; rfl; rfl) | (apply Y_build; rfl; exact inferInstance) | (apply Y_pick_f; rfl; rfl)); rfl) | refine J.seq ?_ | refine J.region ?_ | refine JL.nil ?_ | (apply JL.callq; rfl; rfl; (intro wc hwc; first | exact near_spec _ _ _ (by omega) (by omega) _)) | (apply JL.bslice1; rfl; rfl; rfl; rfl; rfl; rfl; intro _) | (apply JL.store; (apply St_1 1; rfl; rfl; exact inferInstance; (first | rfl | assumption); rfl; rfl; (first | (focus (simp only [List.set_cons_zero, List.set_cons_succ]; done)) | (simp only [List.set_cons_zero, List.set_cons_succ]; rfl)))) | (apply JL.guard_no; rfl; rfl; rfl; rfl; rfl) | refine J.cond_t rfl ?_ | refine J.cond_f rfl ?_ | (apply J.exit; rfl))
  rw [near0]
  repeat (first | (apply JL.y; (first | (apply Y_assign; rfl) | (apply Y_fieldAddr; rfl; rfl) | (apply Y_add; rfl; rfl; omega)); rfl) | refine J.seq ?_ | refine J.region ?_ | refine JL.nil ?_ | (apply JL.store; (apply St_1 1; rfl; rfl; exact inferInstance; (first | rfl | assumption); rfl; rfl; (first | (focus (simp only [List.set_cons_zero, List.set_cons_succ]; done)) | (simp only [List.set_cons_zero, List.set_cons_succ]; rfl)))) | refine J.block ?_)
  rename_i b1 b2 b3 bw
  refine J.intro fun w1 hw1 => ?_
  have hBw := hw1.has _ (.head _)
  have hB3 := hw1.has _ (.tail _ (.head _))
  have hB2 := hw1.has _ (.tail _ (.tail _ (.head _)))
  have hB1 := hw1.has _ (.tail _ (.tail _ (.tail _ (.head _))))
  have b3l : W.heap.size ≤ b3 := (hw1.mine _ (.tail _ (.head _))).resolve_left id
  have b2l : W.heap.size ≤ b2 := (hw1.mine _ (.tail _ (.tail _ (.head _)))).resolve_left id
  have b1l : W.heap.size ≤ b1 := (hw1.mine _ (.tail _ (.tail _ (.tail _ (.head _))))).resolve_left id
  have b23 : b2 ≠ b3 := hw1.apart.2.1 _ (.head _)
  have b13 : b1 ≠ b3 := hw1.apart.2.1 _ (.tail _ (.head _))
  have b12 : b1 ≠ b2 := hw1.apart.2.2.1 _ (.head _)
  have u3 := hB3.lt
  have u2 := hB2.lt
  have u1 := hB1.lt
  simp only at u3 u2 u1
  have hX1 : Ext No W w1 := hw1.ext
  have hB := hB.ext0 hX1
  have hRk : Rd 11 (fun _ c x => c = chC x) w1 (fun q => q = bk) (.slice (some ⟨bk, 0, none⟩) 1 1) [(chC k, k)] :=
    ⟨hB.foot.imp fun w hw => (Row.of_blk (el := 61) (sz := 11) (chs := [chC k]) hw (by simp) (by simp [chC]) rfl (by simp [maxLen])).rrow, fun z hz => Foot.pure fun _ => by simp at hz; subst hz; rfl⟩
  have lk := hRk.lds (P := Try.prog) (t := 61) (i := 0) rfl
  refine J.at (C := Cls w1 (fun k => k = b3 ∨ k = b2 ∨ k = b1) [_, _, _]) ?_ (Cls.start3 hB3 hB2 hB1 b23 b13 b12)
  apply J.loop1
  repeat (first | (apply JL.y; (first | (apply Y_move; rfl) | (apply Y_fieldAddr; rfl; rfl) | (apply Y_load1 0; rfl; rfl; rfl; exact inferInstance) | (apply Y_load1 2; rfl; rfl; rfl; exact inferInstance) | (apply Y_len; rfl) | (apply Y_lss; rfl; rfl) | (apply Y_gtr; rfl; rfl) | (apply Y_pick_t; rfl; rfl)); rfl) | refine J.seq ?_ | refine J.region ?_ | refine JL.nil ?_ | (apply JL.guard_yes; rfl; rfl; rfl) | refine J.skip ?_ | refine J.cond_t rfl ?_ | refine J.block ?_)
  refine J.draw (S := Cls w1 (fun k => k = b3 ∨ k = b2 ∨ k = b1) [_, _, _]) [11, 13] #[false, false, false, false, false, false, false, false, false, false, false, false, false, false] rfl rfl (fun w hw => hw.drew) (fun w hS => ?_)
  (apply DR.pure 0 #[true, false, false, false, false, false, false, false, false, false, false, false, false, false]; rfl; kernel_rfl; (apply Y_fieldAddr; rfl; rfl); rfl)
  (apply DR.take 1 #[true, true, false, false, false, false, false, false, false, false, false, false, false, false]; rfl; kernel_rfl; (first | (apply Y_load1 0; rfl; rfl; rfl; exact inferInstance) | (apply Y_load1 1; rfl; rfl; rfl; exact inferInstance) | (apply Y_load1 2; rfl; rfl; rfl; exact inferInstance) | (apply Y_load1 3; rfl; rfl; rfl; exact inferInstance) | (apply Y_loadW 0; rfl; rfl; exact inferInstance; rfl) | (apply Y_loadW 1; rfl; rfl; exact inferInstance; rfl) | (apply Y_loadW 2; rfl; rfl; exact inferInstance; rfl) | (apply Y_loadW 3; rfl; rfl; exact inferInstance; rfl)); rfl; exact hS)
  (apply DR.pure 2 #[true, true, true, false, false, false, false, false, false, false, false, false, false, false]; rfl; kernel_rfl; (apply Y_fieldAddr; rfl; rfl); rfl)
  (apply DR.take 3 #[true, true, true, true, false, false, false, false, false, false, false, false, false, false]; rfl; kernel_rfl; (first | (apply Y_load1 0; rfl; rfl; rfl; exact inferInstance) | (apply Y_load1 1; rfl; rfl; rfl; exact inferInstance) | (apply Y_load1 2; rfl; rfl; rfl; exact inferInstance) | (apply Y_load1 3; rfl; rfl; rfl; exact inferInstance) | (apply Y_loadW 0; rfl; rfl; exact inferInstance; rfl) | (apply Y_loadW 1; rfl; rfl; exact inferInstance; rfl) | (apply Y_loadW 2; rfl; rfl; exact inferInstance; rfl) | (apply Y_loadW 3; rfl; rfl; exact inferInstance; rfl)); rfl; exact hS)
  (apply DR.pure 4 #[true, true, true, true, true, false, false, false, false, false, false, false, false, false]; rfl; kernel_rfl; (apply Y_move; rfl); rfl)
  (apply DR.take 5 #[true, true, true, true, true, true, false, false, false, false, false, false, false, false]; rfl; kernel_rfl; exact Y_indexAddr rfl rfl (by omega); rfl; exact hS)
  (apply DR.take 6 #[true, true, true, true, true, true, true, false, false, false, false, false, false, false]; rfl; kernel_rfl; exact Y_loadP rfl fun w hw => lk.at_ hw.ext fun q _ h1 h2 => (by omega); rfl; exact hS)
  (apply DR.pure 7 #[true, true, true, true, true, true, true, true, false, false, false, false, false, false]; rfl; kernel_rfl; (apply Y_fieldAddr; rfl; rfl); rfl)
  (apply DR.take 8 #[true, true, true, true, true, true, true, true, true, false, false, false, false, false]; rfl; kernel_rfl; (first | (apply Y_load1 0; rfl; rfl; rfl; exact inferInstance) | (apply Y_load1 1; rfl; rfl; rfl; exact inferInstance) | (apply Y_load1 2; rfl; rfl; rfl; exact inferInstance) | (apply Y_load1 3; rfl; rfl; rfl; exact inferInstance) | (apply Y_loadW 0; rfl; rfl; exact inferInstance; rfl) | (apply Y_loadW 1; rfl; rfl; exact inferInstance; rfl) | (apply Y_loadW 2; rfl; rfl; exact inferInstance; rfl) | (apply Y_loadW 3; rfl; rfl; exact inferInstance; rfl)); rfl; exact hS)
  refine DR.callq 9 #[true, true, true, true, true, true, true, true, true, true, false, false, false, false] rfl (by kernel_rfl) rfl rfl rfl (channel_spec k hk _) (fun w' hw' => hS.ext0 hw') (fun w2 hE2 hS => ?_)
  refine DR.bslice1 10 #[true, true, true, true, true, true, true, true, true, true, true, false, false, false] rfl (by kernel_rfl) rfl inferInstance inferInstance rfl rfl rfl rfl rfl rfl (Cls.start No w2) (fun w' hw' => hS.ext0 hw') (fun bb w3 hC3 hS => ?_)
  refine DR.append1 11 #[true, true, true, true, true, true, true, true, true, true, true, true, false, false] rfl (by kernel_rfl) rfl inferInstance rfl rfl (Row.nil w3 61 11) (hC3.has _ (.head _)) rfl rfl (by simp [chC, Value.oneCell']) (by simp) rfl rfl (fun v' w4 hrow hapd => ?_)
  have hE1 : Ext No w1 w3 := hS.still fun q h => by
    rcases h with rfl | rfl | rfl
    · exact ⟨_, .head _, rfl, hB3⟩
    · exact ⟨_, .tail _ (.head _), rfl, hB2⟩
    · exact ⟨_, .tail _ (.tail _ (.head _)), rfl, hB1⟩
  have hX3 := hX1.trans hE1
  have hE4 : Ext No w3 w4 := hapd.ext.mono fun q _ h => by simp [Value.ownBlock] at h
  have hv1 : v'.oneCell' = true := hrow.one
  obtain ⟨g, cap, _, hgv, _⟩ := hrow.block (by simp)
  simp only [List.nil_append, List.length_cons, List.length_nil, Nat.zero_add] at hgv hrow
  subst hgv
  have hgl : w3.heap.size ≤ g := by
    rcases hapd.at_ with h1 | h1 <;> simp [Value.ownBlock] at h1
    omega
  (apply DR.pure 12 #[true, true, true, true, true, true, true, true, true, true, true, true, true, false]; rfl; kernel_rfl; (apply Y_fieldAddr; rfl; rfl); rfl)
  (apply DR.store 13 #[true, true, true, true, true, true, true, true, true, true, true, true, true, true]; rfl; kernel_rfl; rfl; exact (Cls.start3 (hB3.ext0 (hE1.trans hE4)) (hB2.ext0 (hE1.trans hE4)) (hB1.ext0 (hE1.trans hE4)) b23 b13 b12); (apply St_1 0; rfl; rfl; exact inferInstance; rfl; rfl; rfl; rfl); intro w5 hC5)
  refine DR.done (by kernel_rfl) ?_
  have s3 := hX3.size
  have s1 := hX1.size
  have s13 := hE1.size
  refine J.at (C := Cls w4 (fun k => k = b3 ∨ k = b2 ∨ k = b1) [_, _, _]) ?_ hC5
  repeat (first | (apply JL.y; (first | (apply Y_move; rfl) | (apply Y_assign; rfl) | (apply Y_add; rfl; rfl; omega)); rfl) | refine J.region ?_ | refine JL.nil ?_ | refine J.inBlock ?_)
  apply J.inLoop1
  repeat (first | (apply JL.y; (first | (apply Y_move; rfl) | (apply Y_assign; rfl) | (apply Y_fieldAddr; rfl; rfl) | (apply Y_load1 2; rfl; rfl; rfl; exact inferInstance) | (apply Y_len; rfl) | (apply Y_lss; rfl; rfl) | (apply Y_pick_f; rfl; rfl)); rfl) | refine J.seq ?_ | refine J.region ?_ | refine JL.nil ?_ | (apply JL.guard_no; rfl; rfl; rfl; rfl; rfl) | refine J.cond_f rfl ?_ | refine J.block ?_ | (apply J.exit; rfl))
  apply J.loop1
  repeat (first | (apply JL.y; (first | (apply Y_move; rfl) | (apply Y_assign; rfl) | (apply Y_fieldAddr; rfl; rfl) | (apply Y_load1 0; rfl; rfl; rfl; exact inferInstance) | (apply Y_load1 2; rfl; rfl; rfl; exact inferInstance) | (apply Y_len; rfl) | (apply Y_lss; rfl; rfl)); rfl) | refine J.seq ?_ | refine J.region ?_ | refine JL.nil ?_ | (apply JL.bslice1; rfl; rfl; rfl; rfl; rfl; rfl; intro _) | refine J.skip ?_ | refine J.cond_t rfl ?_ | refine J.cond_f rfl ?_ | refine J.block ?_)
  refine JL.intro fun w6 hw6 => ?_
  have hX6 : Ext No W w6 := ((hX3.trans hE4)).then hw6.ext fun q h1 h2 => by omega
  have hrow6 := hrow.ext hw6.ext fun q h1 h2 => by simp [Value.ownBlock] at h1; omega
  have s6 := hw6.ext.size
  have s4 := hE4.size
  have hB3 := hw6.has _ (.tail _ (.head _))
  have hB2 := hw6.has _ (.tail _ (.tail _ (.head _)))
  have hB1 := hw6.has _ (.tail _ (.tail _ (.tail _ (.head _))))
  have gu := hrow6.lt (g := g) rfl
  refine GL.append1 rfl rfl (Row.nil w6 3 1) (hw6.has _ (.head _)) rfl rfl (by simp [Value.oneCell']) (by simp) rfl rfl fun v7 w7 hrow7 hapd7 => ?_
  have hE7 : Ext No w6 w7 := hapd7.ext.mono fun q _ h => by simp [Value.ownBlock] at h
  have hv7 : v7.oneCell' = true := hrow7.one
  have h7l : ∀ q, v7.ownBlock = some q → w6.heap.size ≤ q := fun q h => by
    rcases hapd7.at_ with h1 | h1 <;> rw [h1] at h
    · simp [Value.ownBlock] at h
    · injection h with h; omega
  refine GL.of_JL (C := Cls w7 (fun k => k = b3 ∨ k = b2 ∨ k = b1) [_, _, _]) (Cls.start3 (hB3.ext0 hE7) (hB2.ext0 hE7) (hB1.ext0 hE7) b23 b13 b12) ?_
  repeat (first | (apply JL.y; (first | (apply Y_move; rfl) | (apply Y_assign; rfl) | (apply Y_fieldAddr; rfl; rfl) | (apply Y_add; rfl; rfl; omega)); rfl) | refine J.region ?_ | refine JL.nil ?_ | (apply JL.store; (apply St_1 0; rfl; rfl; exact inferInstance; (first | rfl | assumption); rfl; rfl; (first | (focus (simp only [List.set_cons_zero, List.set_cons_succ]; done)) | (simp only [List.set_cons_zero, List.set_cons_succ]; rfl)))) | refine J.inBlock ?_)
  apply J.inLoop1
  repeat (first | (apply JL.y; (first | (apply Y_move; rfl) | (apply Y_assign; rfl) | (apply Y_fieldAddr; rfl; rfl) | (apply Y_load1 0; rfl; rfl; rfl; exact inferInstance) | (apply Y_load1 2; rfl; rfl; rfl; exact inferInstance) | (apply Y_len; rfl) | (apply Y_lss; rfl; rfl)); rfl) | refine J.seq ?_ | refine J.region ?_ | refine JL.nil ?_ | (apply JL.bslice1; rfl; rfl; rfl; rfl; rfl; rfl; intro _) | refine J.skip ?_ | refine J.cond_t rfl ?_ | refine J.cond_f rfl ?_ | refine J.block ?_)
  refine JL.intro fun w8 hw8 => ?_
  have hX8 : Ext No W w8 := (hX6.trans hE7).then hw8.ext fun q h1 h2 => by omega
  have hrow8 := (hrow6.ext0 hE7).ext hw8.ext fun q h1 h2 => by simp [Value.ownBlock] at h1; omega
  have hrow7' := hrow7.ext hw8.ext fun q h1 h2 => by have := h7l q h1; omega
  have s8 := hw8.ext.size
  have s7 := hE7.size
  have hB3 := hw8.has _ (.tail _ (.head _))
  have hB2 := hw8.has _ (.tail _ (.tail _ (.head _)))
  have hB1 := hw8.has _ (.tail _ (.tail _ (.tail _ (.head _))))
  refine GL.append1 rfl rfl hrow7' (hw8.has _ (.head _)) rfl rfl (by simp [Value.oneCell']) (by simp) rfl rfl fun v9 w9 hrow9 hapd9 => ?_
  have hE9 : Ext No W w9 := hX8.then hapd9.ext fun q h1 h2 => by have := h7l q h2; omega
  have hv9 : v9.oneCell' = true := hrow9.one
  have hrow10 := hrow8.ext hapd9.ext fun q h1 h2 => by have := h7l q h2; simp [Value.ownBlock] at h1; omega
  refine GL.of_JL (C := Cls w9 (fun k => k = b3 ∨ k = b2 ∨ k = b1) [_, _, _]) (Cls.start3 (hB3.keep hapd9.ext fun h => by have := h7l _ h; simp only at this; omega) (hB2.keep hapd9.ext fun h => by have := h7l _ h; simp only at this; omega) (hB1.keep hapd9.ext fun h => by have := h7l _ h; simp only at this; omega) b23 b13 b12) ?_
  repeat (first | (apply JL.y; (first | (apply Y_move; rfl) | (apply Y_assign; rfl) | (apply Y_fieldAddr; rfl; rfl) | (apply Y_add; rfl; rfl; omega)); rfl) | refine J.region ?_ | refine JL.nil ?_ | (apply JL.store; (apply St_1 0; rfl; rfl; exact inferInstance; (first | rfl | assumption); rfl; rfl; (first | (focus (simp only [List.set_cons_zero, List.set_cons_succ]; done)) | (simp only [List.set_cons_zero, List.set_cons_succ]; rfl)))) | refine J.inBlock ?_)
  apply J.inLoop1
  repeat (first | (apply JL.y; (first | (apply Y_move; rfl) | (apply Y_fieldAddr; rfl; rfl) | (apply Y_load1 0; rfl; rfl; rfl; exact inferInstance) | (apply Y_loadW 0; rfl; rfl; exact inferInstance; rfl) | (apply Y_lss; rfl; rfl)); rfl) | refine J.seq ?_ | refine J.region ?_ | refine JL.nil ?_ | (apply JL.store; (apply St_W 1; rfl; rfl; rfl; exact inferInstance; rfl; rfl; (first | (focus (simp [Value.oneCell']; done)) | (simp [Value.oneCell']; assumption) | (simp [Value.oneCell']; exact ⟨by assumption, by assumption⟩)); (first | (focus (simp only [List.set_cons_zero, List.set_cons_succ]; done)) | (simp only [List.set_cons_zero, List.set_cons_succ]; rfl)))) | refine J.cond_f rfl ?_ | (apply J.exit; rfl))
  refine J.ret1 Try.func120 Try.results120 (RV.W 1 rfl rfl rfl) fun w' hw' => ⟨_, rfl, hE9.then hw'.ext fun q h1 h2 => by omega, _, _, g, cap, _, rfl, rfl, rfl, hv9, hrow10.ext hw'.ext fun q h1 h2 => by simp [Value.ownBlock] at h1; omega⟩
end Go.Proofs.Ytmkpbbdocndfbaa
/- Channels that are right, made of any, as the laws ask for them. -/
namespace Go.Proofs.Ytmkpbbdocndfbaa
open Go.RowKit Go.Proofs
attribute [local irreducible] Yl JL J G GL GA GQ DR DRA

set_option maxHeartbeats 1000000 in
theorem good12_spec (k : Ch) (w : World) : Calls Try.prog 49 #[.agg (chC k).toArray] w fun e w' => e = .returned (.agg (chC (goodC k)).toArray) ∧ Ext No w w' := by
  refine Calls.of_G1 Try.func49 rfl Try.ntmps49 rfl ?_
  refine J.at (C := Cls w No []) ?_ (Cls.start _ _)
  unfold chC
  repeat (first | (apply JL.y; (first | (apply Y_fieldAddr; rfl; rfl) | (apply Y_loadW 1; rfl; rfl; exact inferInstance; rfl) | (apply Y_build; rfl; exact inferInstance)); rfl) | refine J.seq ?_ | refine J.region ?_ | refine JL.nil ?_ | (apply JL.box; rfl; rfl; rfl; intro _) | (apply JL.alloc; rfl; rfl; intro _) | (apply JL.bslice1; rfl; rfl; rfl; rfl; rfl; rfl; intro _) | (apply JL.store; (apply St_1 1; rfl; rfl; exact inferInstance; (first | rfl | assumption); rfl; rfl; (first | (focus (simp only [List.set_cons_zero, List.set_cons_succ]; done)) | (simp only [List.set_cons_zero, List.set_cons_succ]; rfl)))))
  rename_i b1 b2 bs
  refine JL.call _ rfl rfl (fun w1 hw1 => good_spec (k := { k with kind := 1 }) rfl (hw1.has _ (.head _))) fun w1 r w2 hw1 ⟨hE2, f, wv, g, c, av, hr, hf, hwv, hav, hrow⟩ => ?_
  subst hr
  have hC2 := hw1.ext0 hE2
  have hX2 := hC2.ext
  have hB2 := hC2.has _ (.tail _ (.head _))
  have b2l : w.heap.size ≤ b2 := (hw1.mine _ (.tail _ (.head _))).resolve_left id
  have l1 := Row.foot hrow
  obtain ⟨g', cap', _, hgv, _⟩ := hrow.block (by simp)
  refine GL.of_JL (C := Cls w2 No []) (Cls.start _ _) ?_
  repeat (first | (apply JL.alloc; rfl; rfl; intro _))
  (apply JL.store; (apply St_W 0; rfl; rfl; rfl; exact inferInstance; rfl; rfl; (intro u hu; simp only [List.mem_cons, List.not_mem_nil, or_false] at hu; rcases hu with rfl | rfl | rfl | rfl | rfl <;> first | assumption | rfl); rfl))
  repeat (first | (apply JL.y; (first | (apply Y_fieldAddr; rfl; rfl) | (apply Y_load1 0; rfl; rfl; rfl; exact inferInstance)); rfl) | refine J.seq ?_ | refine J.region ?_ | refine JL.nil ?_)
  apply JL.y (Y_indexAddr rfl rfl (by decide)) rfl
  rw [add_lit]
  refine JL.intro fun w3 hw3 => ?_
  have hB2 := hB2.ext0 hw3.ext
  have hrow3 := hrow.ext0 hw3.ext
  have b2g : b2 ≠ g := fun h => by
    subst h
    obtain ⟨g2, cap2, cur, hv2, hb2, _, _, h5, h6⟩ := hrow3.block (by simp)
    simp only [Value.slice.injEq, Option.some.injEq, Addr.mk.injEq, List.length_cons, List.length_nil] at hv2
    obtain ⟨⟨rfl, _⟩, _, rfl⟩ := hv2
    have h7 := hB2.symm.trans hb2
    simp only [Option.some.injEq, Obj.cells.injEq] at h7
    have h8 := congrArg List.head? h6
    rw [← h7.1] at h8
    simp [chC, goodC] at h8
  have lk : Lds Try.prog 61 ⟨g, 0, none⟩ (.agg (chC (goodC k)).toArray) w3 := by
    obtain ⟨g2, cap2, cur, hv2, hb2, _, _, h5, h6⟩ := hrow3.block (by simp)
    simp only [Value.slice.injEq, Option.some.injEq, Addr.mk.injEq, List.length_cons, List.length_nil] at hv2
    obtain ⟨⟨rfl, _⟩, _, rfl⟩ := hv2
    exact Lds.many hb2 (show (cur.toList.drop 0).take 11 = chC (goodC k) from h6.trans (List.append_nil _)) (by simp [chC])
  refine GL.of_JL (C := fun w' => w' = w3) rfl ?_
  apply JL.y (Y_loadP rfl fun w' hw' => by rw [hw']; simpa using lk) rfl
  refine JL.imp (C' := Cls w3 (fun q => q = b2) [_]) ?_ fun w' hw' => by rw [hw']; exact Cls.start1 hB2
  unfold chC
  repeat (first | refine JL.nil ?_ | (apply JL.store; (apply St_W 0; rfl; rfl; rfl; exact inferInstance; rfl; rfl; (first | (focus (simp [Value.oneCell']; done)) | (simp [Value.oneCell']; assumption) | (simp [Value.oneCell']; exact ⟨by assumption, by assumption⟩)); (first | (focus (simp only [List.set_cons_zero]; done)) | (simp only [List.set_cons_zero]; rfl)))))
  refine J.ret1 Try.func49 Try.results49 (RV.W 0 rfl rfl rfl) fun w' hw' => ⟨rfl, (hX2.trans hw3.ext).then hw'.ext fun q h1 h2 => by omega⟩
set_option maxHeartbeats 1000000 in
theorem good19_spec (k : Ch) (w : World) : Calls Try.prog 85 #[.agg (chC k).toArray] w fun e w' => e = .returned (.agg (chC (goodC k)).toArray) ∧ Ext No w w' := by
  refine Calls.of_G1 Try.func85 rfl Try.ntmps85 rfl ?_
  refine J.at (C := Cls w No []) ?_ (Cls.start _ _)
  unfold chC
  repeat (first | (apply JL.y; (first | (apply Y_fieldAddr; rfl; rfl) | (apply Y_loadW 1; rfl; rfl; exact inferInstance; rfl) | (apply Y_build; rfl; exact inferInstance)); rfl) | refine J.seq ?_ | refine J.region ?_ | refine JL.nil ?_ | (apply JL.box; rfl; rfl; rfl; intro _) | (apply JL.alloc; rfl; rfl; intro _) | (apply JL.bslice1; rfl; rfl; rfl; rfl; rfl; rfl; intro _) | (apply JL.store; (apply St_1 1; rfl; rfl; exact inferInstance; (first | rfl | assumption); rfl; rfl; (first | (focus (simp only [List.set_cons_zero, List.set_cons_succ]; done)) | (simp only [List.set_cons_zero, List.set_cons_succ]; rfl)))))
  rename_i b1 b2 bs
  refine JL.call _ rfl rfl (fun w1 hw1 => good_spec (k := { k with kind := 1 }) rfl (hw1.has _ (.head _))) fun w1 r w2 hw1 ⟨hE2, f, wv, g, c, av, hr, hf, hwv, hav, hrow⟩ => ?_
  subst hr
  have hC2 := hw1.ext0 hE2
  have hX2 := hC2.ext
  have hB2 := hC2.has _ (.tail _ (.head _))
  have b2l : w.heap.size ≤ b2 := (hw1.mine _ (.tail _ (.head _))).resolve_left id
  have l1 := Row.foot hrow
  obtain ⟨g', cap', _, hgv, _⟩ := hrow.block (by simp)
  refine GL.of_JL (C := Cls w2 No []) (Cls.start _ _) ?_
  repeat (first | (apply JL.alloc; rfl; rfl; intro _))
  (apply JL.store; (apply St_W 0; rfl; rfl; rfl; exact inferInstance; rfl; rfl; (intro u hu; simp only [List.mem_cons, List.not_mem_nil, or_false] at hu; rcases hu with rfl | rfl | rfl | rfl | rfl <;> first | assumption | rfl); rfl))
  repeat (first | (apply JL.y; (first | (apply Y_fieldAddr; rfl; rfl) | (apply Y_load1 0; rfl; rfl; rfl; exact inferInstance)); rfl) | refine J.seq ?_ | refine J.region ?_ | refine JL.nil ?_)
  apply JL.y (Y_indexAddr rfl rfl (by decide)) rfl
  rw [add_lit]
  refine JL.intro fun w3 hw3 => ?_
  have hB2 := hB2.ext0 hw3.ext
  have hrow3 := hrow.ext0 hw3.ext
  have b2g : b2 ≠ g := fun h => by
    subst h
    obtain ⟨g2, cap2, cur, hv2, hb2, _, _, h5, h6⟩ := hrow3.block (by simp)
    simp only [Value.slice.injEq, Option.some.injEq, Addr.mk.injEq, List.length_cons, List.length_nil] at hv2
    obtain ⟨⟨rfl, _⟩, _, rfl⟩ := hv2
    have h7 := hB2.symm.trans hb2
    simp only [Option.some.injEq, Obj.cells.injEq] at h7
    have h8 := congrArg List.head? h6
    rw [← h7.1] at h8
    simp [chC, goodC] at h8
  have lk : Lds Try.prog 61 ⟨g, 0, none⟩ (.agg (chC (goodC k)).toArray) w3 := by
    obtain ⟨g2, cap2, cur, hv2, hb2, _, _, h5, h6⟩ := hrow3.block (by simp)
    simp only [Value.slice.injEq, Option.some.injEq, Addr.mk.injEq, List.length_cons, List.length_nil] at hv2
    obtain ⟨⟨rfl, _⟩, _, rfl⟩ := hv2
    exact Lds.many hb2 (show (cur.toList.drop 0).take 11 = chC (goodC k) from h6.trans (List.append_nil _)) (by simp [chC])
  refine GL.of_JL (C := fun w' => w' = w3) rfl ?_
  apply JL.y (Y_loadP rfl fun w' hw' => by rw [hw']; simpa using lk) rfl
  refine JL.imp (C' := Cls w3 (fun q => q = b2) [_]) ?_ fun w' hw' => by rw [hw']; exact Cls.start1 hB2
  unfold chC
  repeat (first | refine JL.nil ?_ | (apply JL.store; (apply St_W 0; rfl; rfl; rfl; exact inferInstance; rfl; rfl; (first | (focus (simp [Value.oneCell']; done)) | (simp [Value.oneCell']; assumption) | (simp [Value.oneCell']; exact ⟨by assumption, by assumption⟩)); (first | (focus (simp only [List.set_cons_zero]; done)) | (simp only [List.set_cons_zero]; rfl)))))
  refine J.ret1 Try.func85 Try.results85 (RV.W 0 rfl rfl rfl) fun w' hw' => ⟨rfl, (hX2.trans hw3.ext).then hw'.ext fun q h1 h2 => by omega⟩
end Go.Proofs.Ytmkpbbdocndfbaa
