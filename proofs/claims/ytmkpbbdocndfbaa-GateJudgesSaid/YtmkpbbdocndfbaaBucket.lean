/- The bucket, and the document's: what each function computes. -/
import Derived.Test.YtmkpbbdocndfbaaMul
import Derived.Test.YtmkpbbdocndfbaaPlayS
namespace Go.Proofs.Ytmkpbbdocndfbaa
open Go.RowKit Go.Proofs
attribute [local irreducible] Yl JL J G GL GA GQ DR DRA

/-! ### The plain functions -/
def bTok (r c t rd round : Int) : Int := min (t + ssub round rd * r) c
def bRnd (rd round : Int) : Int := max rd (cut round)
/-- A bucket's numbers. -/
structure BIn (r c t rd : Int) : Prop where
  hr : 0 ≤ r ∧ r ≤ 64
  hc : 1 ≤ c ∧ c ≤ 64
  ht : 0 ≤ t ∧ t ≤ c
  hrd : 0 ≤ rd ∧ rd ≤ 4611686018427387904
theorem BIn.tok {r c t rd : Int} (h : BIn r c t rd) (round : Int) : 0 ≤ bTok r c t rd round ∧ bTok r c t rd round ≤ c := by
  have := Int.mul_nonneg (ssub_in round rd).1 h.hr.1
  have := h.ht
  have := h.hc
  unfold bTok; omega
theorem BIn.rnd {r c t rd : Int} (h : BIn r c t rd) (round : Int) : 0 ≤ bRnd rd round ∧ bRnd rd round ≤ 4611686018427387904 := by
  have := cut_in round
  have := h.hrd
  unfold bRnd; omega
theorem BIn.come {r c t rd : Int} (h : BIn r c t rd) (round : Int) : BIn r c (bTok r c t rd round) (bRnd rd round) := ⟨h.hr, h.hc, h.tok round, h.rnd round⟩
theorem BIn.take {r c t rd : Int} (h : BIn r c t rd) (h0 : ¬ t = 0) : BIn r c (t - 1) rd := ⟨h.hr, h.hc, by have := h.ht; omega, h.hrd⟩
theorem come_tok {r c t rd : Int} (h : BIn r c t rd) (round : Int) : min (sadd t (smul r (ssub round rd))) c = bTok r c t rd round := by
  have hg := ssub_in round rd
  obtain ⟨g, hge⟩ : ∃ g, g = ssub round rd := ⟨_, rfl⟩
  rw [← hge] at hg
  have hr := h.hr
  have ht := h.ht
  have hc := h.hc
  unfold bTok
  rw [← hge]
  have h0 : smul r g = min (g * r) 4611686018427387904 := by unfold smul; rw [cut_id hr.1 (by omega), cut_id hg.1 hg.2, Int.mul_comm]
  have hp := Int.mul_nonneg hg.1 hr.1
  rw [h0]
  obtain ⟨p, hp2⟩ : ∃ p, p = g * r := ⟨_, rfl⟩
  rw [← hp2] at hp ⊢
  unfold sadd cut
  omega
theorem come_rnd {r c t rd : Int} (h : BIn r c t rd) (round : Int) : sadd rd (ssub round rd) = bRnd rd round := by
  have hrd := h.hrd
  have hc := cut_in round
  unfold sadd ssub bRnd
  rw [cut_id hrd.1 hrd.2]
  obtain ⟨x, hx⟩ : ∃ x, x = cut round := ⟨_, rfl⟩
  rw [← hx] at hc ⊢
  unfold cut
  omega
/-- Behind so many rounds, one by one. -/
theorem rounds_end {r c t g : Int} (hr : 0 ≤ r ∧ r ≤ 64) (hc : 1 ≤ c ∧ c ≤ 64) (ht : 0 ≤ t ∧ t ≤ c) (i : Int) (hi : i ≤ g) (h : i = g ∨ i = 64) : min (t + i * r) c = min (t + g * r) c := by
  rcases h with rfl | rfl
  · rfl
  · rcases Int.lt_or_le 0 r with h1 | h1
    · have h2 : 64 * r ≤ g * r := Int.mul_le_mul_of_nonneg_right hi hr.1
      omega
    · have : r = 0 := by omega
      subst this; simp

/-! ### The bucket -/
def bC (r c t rd : Int) : List Value := [.int .i64 r, .int .i64 c, .int .i64 t, .int .i64 rd]
/-- bucket.New. -/
theorem bNew_spec (r c : Int) (w : World) : Calls Try.prog 123 #[.int .i64 r, .int .i64 c] w fun e w' => ∃ x, e = .returned x ∧ ∃ b, x = .pointer (some ⟨b, 0, none⟩) ∧ Ext No w w' ∧ w.heap.size ≤ b ∧ BlkIn w' ⟨b, bC (cl 0 64 r) (cl 1 64 c) (cl 1 64 c) 0, 189⟩ := by
  refine Calls.of_G2 Try.func123 rfl Try.ntmps123 rfl ?_
  refine J.at (C := Cls w No []) ?_ (Cls.start _ _)
  repeat (first | (apply JL.y; (first | (apply Y_move; rfl) | (apply Y_assign; rfl) | (apply Y_min; rfl; rfl) | (apply Y_max; rfl; rfl) | (apply Y_build; rfl; exact inferInstance)); rfl) | refine J.seq ?_ | refine J.region ?_ | refine JL.nil ?_ | (apply JL.box; rfl; rfl; rfl; intro _))
  exact J.ret1 Try.func123 Try.results123 (RV.tm rfl) fun w' hw' => ⟨_, rfl, _, rfl, hw'.ext, (hw'.mine _ (.head _)).resolve_left id, hw'.has _ (.head _)⟩
/-- bucket.come. -/
theorem bCome_spec {w : World} {b : Nat} {r c t rd : Int} (hb : BlkIn w ⟨b, bC r c t rd, 189⟩) (h : BIn r c t rd) (round : Int) :
    Calls Try.prog 151 #[.pointer (some ⟨b, 0, none⟩), .int .i64 round] w fun e w' => ∃ x, e = .returned x ∧ Ext (fun k => k = b) w w' ∧ BlkIn w' ⟨b, bC r c (bTok r c t rd round) (bRnd rd round), 189⟩ := by
  refine Calls.of_G2 Try.func151 rfl Try.ntmps151 rfl ?_
  refine J.at (C := Cls w (fun k => k = b) [_]) ?_ (Cls.start1 hb)
  unfold bC
  repeat (first | (apply JL.y; (first | (apply Y_move; rfl) | (apply Y_assign; rfl) | (apply Y_fieldAddr; rfl; rfl) | (apply Y_load1 0; rfl; rfl; rfl; exact inferInstance) | (apply Y_nilCheck; rfl)); rfl) | refine J.seq ?_ | refine J.region ?_ | refine JL.nil ?_ | (apply JL.callq; rfl; rfl; (intro wc hwc; first | exact sub_spec _ _ _)))
  refine J.draw (S := Cls _ _ _) [19] #[false, false, false, false, false, false, false, false, false, false, false, false, false, false, false, false, false, false, false, false] rfl rfl (fun w hw => hw.drew) (fun w hS => ?_)
  (apply DR.pure 0 #[true, false, false, false, false, false, false, false, false, false, false, false, false, false, false, false, false, false, false, false]; rfl; kernel_rfl; (apply Y_move; rfl); rfl)
  (apply DR.pure 1 #[true, true, false, false, false, false, false, false, false, false, false, false, false, false, false, false, false, false, false, false]; rfl; kernel_rfl; (apply Y_move; rfl); rfl)
  (apply DR.pure 2 #[true, true, true, false, false, false, false, false, false, false, false, false, false, false, false, false, false, false, false, false]; rfl; kernel_rfl; (first | (apply Y_nilCheck; rfl) | (apply Y_nilCheckF; rfl)); rfl)
  (apply DR.pure 3 #[true, true, true, true, false, false, false, false, false, false, false, false, false, false, false, false, false, false, false, false]; rfl; kernel_rfl; (apply Y_fieldAddr; rfl; rfl); rfl)
  (apply DR.take 4 #[true, true, true, true, true, false, false, false, false, false, false, false, false, false, false, false, false, false, false, false]; rfl; kernel_rfl; (first | (apply Y_load1 0; rfl; rfl; rfl; exact inferInstance) | (apply Y_load1 1; rfl; rfl; rfl; exact inferInstance) | (apply Y_load1 2; rfl; rfl; rfl; exact inferInstance) | (apply Y_load1 3; rfl; rfl; rfl; exact inferInstance) | (apply Y_loadW 0; rfl; rfl; exact inferInstance; rfl) | (apply Y_loadW 1; rfl; rfl; exact inferInstance; rfl) | (apply Y_loadW 2; rfl; rfl; exact inferInstance; rfl) | (apply Y_loadW 3; rfl; rfl; exact inferInstance; rfl)); rfl; exact hS)
  (apply DR.pure 5 #[true, true, true, true, true, true, false, false, false, false, false, false, false, false, false, false, false, false, false, false]; rfl; kernel_rfl; (apply Y_move; rfl); rfl)
  (apply DR.pure 6 #[true, true, true, true, true, true, true, false, false, false, false, false, false, false, false, false, false, false, false, false]; rfl; kernel_rfl; (first | (apply Y_nilCheck; rfl) | (apply Y_nilCheckF; rfl)); rfl)
  (apply DR.pure 7 #[true, true, true, true, true, true, true, true, false, false, false, false, false, false, false, false, false, false, false, false]; rfl; kernel_rfl; (apply Y_fieldAddr; rfl; rfl); rfl)
  (apply DR.take 8 #[true, true, true, true, true, true, true, true, true, false, false, false, false, false, false, false, false, false, false, false]; rfl; kernel_rfl; (first | (apply Y_load1 0; rfl; rfl; rfl; exact inferInstance) | (apply Y_load1 1; rfl; rfl; rfl; exact inferInstance) | (apply Y_load1 2; rfl; rfl; rfl; exact inferInstance) | (apply Y_load1 3; rfl; rfl; rfl; exact inferInstance) | (apply Y_loadW 0; rfl; rfl; exact inferInstance; rfl) | (apply Y_loadW 1; rfl; rfl; exact inferInstance; rfl) | (apply Y_loadW 2; rfl; rfl; exact inferInstance; rfl) | (apply Y_loadW 3; rfl; rfl; exact inferInstance; rfl)); rfl; exact hS)
  (apply DR.pure 9 #[true, true, true, true, true, true, true, true, true, true, false, false, false, false, false, false, false, false, false, false]; rfl; kernel_rfl; (apply Y_move; rfl); rfl)
  (apply DR.pure 12 #[true, true, true, true, true, true, true, true, true, true, false, false, true, false, false, false, false, false, false, false]; rfl; kernel_rfl; (apply Y_move; rfl); rfl)
  (apply DR.pure 13 #[true, true, true, true, true, true, true, true, true, true, false, false, true, true, false, false, false, false, false, false]; rfl; kernel_rfl; (first | (apply Y_nilCheck; rfl) | (apply Y_nilCheckF; rfl)); rfl)
  (apply DR.pure 14 #[true, true, true, true, true, true, true, true, true, true, false, false, true, true, true, false, false, false, false, false]; rfl; kernel_rfl; (apply Y_fieldAddr; rfl; rfl); rfl)
  (apply DR.take 15 #[true, true, true, true, true, true, true, true, true, true, false, false, true, true, true, true, false, false, false, false]; rfl; kernel_rfl; (first | (apply Y_load1 0; rfl; rfl; rfl; exact inferInstance) | (apply Y_load1 1; rfl; rfl; rfl; exact inferInstance) | (apply Y_load1 2; rfl; rfl; rfl; exact inferInstance) | (apply Y_load1 3; rfl; rfl; rfl; exact inferInstance) | (apply Y_loadW 0; rfl; rfl; exact inferInstance; rfl) | (apply Y_loadW 1; rfl; rfl; exact inferInstance; rfl) | (apply Y_loadW 2; rfl; rfl; exact inferInstance; rfl) | (apply Y_loadW 3; rfl; rfl; exact inferInstance; rfl)); rfl; exact hS)
  refine DR.callq 10 #[true, true, true, true, true, true, true, true, true, true, true, false, true, true, true, true, false, false, false, false] rfl (by kernel_rfl) rfl rfl rfl (mul_spec _ _ _) (fun w' hw' => hS.ext0 hw') (fun w hE2 hS => ?_)
  refine DR.callq 11 #[true, true, true, true, true, true, true, true, true, true, true, true, true, true, true, true, false, false, false, false] rfl (by kernel_rfl) rfl rfl rfl (add_spec _ _ _) (fun w' hw' => hS.ext0 hw') (fun w hE2 hS => ?_)
  (apply DR.pure 16 #[true, true, true, true, true, true, true, true, true, true, true, true, true, true, true, true, true, false, false, false]; rfl; kernel_rfl; (apply Y_min; rfl; rfl); rfl)
  (apply DR.pure 17 #[true, true, true, true, true, true, true, true, true, true, true, true, true, true, true, true, true, true, false, false]; rfl; kernel_rfl; (first | (apply Y_nilCheck; rfl) | (apply Y_nilCheckF; rfl)); rfl)
  (apply DR.pure 18 #[true, true, true, true, true, true, true, true, true, true, true, true, true, true, true, true, true, true, true, false]; rfl; kernel_rfl; (apply Y_fieldAddr; rfl; rfl); rfl)
  rw [come_tok h]
  (apply DR.store 19 #[true, true, true, true, true, true, true, true, true, true, true, true, true, true, true, true, true, true, true, true]; rfl; kernel_rfl; rfl; exact hS; (apply St_1 0; rfl; rfl; exact inferInstance; rfl; rfl; rfl; rfl); intro w2 hC2)
  refine DR.done (by kernel_rfl) ?_
  refine J.at (C := Cls _ _ _) ?_ hC2
  repeat (first | (apply JL.y; (first | (apply Y_move; rfl) | (apply Y_fieldAddr; rfl; rfl) | (apply Y_load1 0; rfl; rfl; rfl; exact inferInstance) | (apply Y_nilCheck; rfl)); rfl) | refine J.region ?_ | refine JL.nil ?_ | (apply JL.callq; rfl; rfl; (intro wc hwc; first | exact add_spec _ _ _)) | (apply JL.store; (apply St_1 0; rfl; rfl; exact inferInstance; (first | rfl | assumption); rfl; rfl; (first | (focus (simp only [List.set_cons_zero, List.set_cons_succ]; done)) | (simp only [List.set_cons_zero, List.set_cons_succ]; rfl)))))
  rw [come_rnd h]
  skip
  exact J.end0 Try.func151 Try.results151 fun w' hw' => ⟨_, rfl, hw'.ext, hw'.has _ (.head _)⟩
/-- bucket.Tokens. -/
theorem bTokens_spec {w : World} {b : Nat} {r c t rd : Int} (hb : BlkIn w ⟨b, bC r c t rd, 189⟩) (h : BIn r c t rd) (round : Int) :
    Calls Try.prog 128 #[.pointer (some ⟨b, 0, none⟩), .int .i64 round] w fun e w' => e = .returned (.int .i64 (bTok r c t rd round)) ∧ Ext (fun k => k = b) w w' ∧ BlkIn w' ⟨b, bC r c (bTok r c t rd round) (bRnd rd round), 189⟩ := by
  refine Calls.of_G2 Try.func128 rfl Try.ntmps128 rfl ?_
  refine J.at (C := Cls w (fun k => k = b) [_]) ?_ (Cls.start1 hb)
  repeat (first | (apply JL.y; (first | (apply Y_move; rfl) | (apply Y_assign; rfl) | (apply Y_pnil_f; rfl)); rfl) | refine J.seq ?_ | refine J.region ?_ | refine JL.nil ?_)
  apply J.cond_f rfl
  repeat (first | (apply JL.y; (apply Y_move; rfl); rfl) | refine J.seq ?_ | refine J.region ?_ | refine J.skip ?_)
  refine JL.call _ rfl rfl (fun w1 hw1 => bCome_spec (hw1.has _ (.head _)) h round) fun w1 x w2 hw1 ⟨hE, hB⟩ => ?_
  refine GL.of_JL (C := Cls w2 (fun k => k = b) [_]) (Cls.start1 hB) ?_
  have hx := hw1.ext
  unfold bC
  repeat (first | (apply JL.y; (first | (apply Y_move; rfl) | (apply Y_assign; rfl) | (apply Y_fieldAddr; rfl; rfl) | (apply Y_load1 0; rfl; rfl; rfl; exact inferInstance) | (apply Y_nilCheck; rfl)); rfl) | refine J.seq ?_ | refine J.region ?_ | refine JL.nil ?_)
  exact J.ret1 Try.func128 Try.results128 (RV.tm rfl) fun w' hw' => ⟨rfl, (hx.trans hE).trans hw'.ext, hw'.has _ (.head _)⟩
/-- bucket.Take. -/
theorem bTake_spec {w : World} {b : Nat} {r c t rd : Int} (hb : BlkIn w ⟨b, bC r c t rd, 189⟩) (h : BIn r c t rd) (round : Int) :
    Calls Try.prog 124 #[.pointer (some ⟨b, 0, none⟩), .int .i64 round] w fun e w' => ∃ x, e = .returned x ∧ x = .bool (decide (¬ bTok r c t rd round = 0)) ∧ Ext (fun k => k = b) w w' ∧ BlkIn w' ⟨b, bC r c (if bTok r c t rd round = 0 then 0 else bTok r c t rd round - 1) (bRnd rd round), 189⟩ := by
  have ht := h.tok round
  have hc := h.hc
  refine Calls.of_G2 Try.func124 rfl Try.ntmps124 rfl ?_
  refine J.at (C := Cls w (fun k => k = b) [_]) ?_ (Cls.start1 hb)
  repeat (first | (apply JL.y; (first | (apply Y_move; rfl) | (apply Y_assign; rfl)); rfl) | refine J.seq ?_ | refine J.region ?_ | refine JL.nil ?_)
  refine JL.call (fun w1 v w2 => v = .int .i64 (bTok r c t rd round) ∧ Ext (fun k => k = b) w1 w2 ∧ BlkIn w2 ⟨b, bC r c (bTok r c t rd round) (bRnd rd round), 189⟩) rfl rfl (fun w1 hw1 => (bTokens_spec (hw1.has _ (.head _)) h round).mono fun e w' he => ⟨_, he.1, rfl, he.2⟩) fun w1 x w2 hw1 ⟨hx, hE, hB⟩ => ?_
  subst hx
  have hx := hw1.ext
  refine GL.of_JL (C := Cls w2 (fun k => k = b) [_]) (Cls.start1 hB) ?_
  unfold bC
  repeat (first | (apply JL.y; (apply Y_eql; rfl; rfl); rfl) | refine JL.nil ?_)
  refine J.cond_d rfl (fun h0 => ?_) (fun h0 => ?_)
  · repeat (first | (apply JL.y; (apply Y_assign; rfl); rfl) | refine J.seq ?_ | refine J.region ?_ | refine JL.nil ?_)
    exact J.ret1 Try.func124 Try.results124 (RV.tm rfl) fun w' hw' => ⟨_, rfl, by simp [h0], (hx.trans hE).trans hw'.ext, by rw [if_pos h0]; have := hw'.has _ (.head _); rw [h0] at this; exact this⟩
  repeat (first | (apply JL.y; (first | (apply Y_move; rfl) | (apply Y_assign; rfl) | (apply Y_fieldAddr; rfl; rfl) | (apply Y_load1 0; rfl; rfl; rfl; exact inferInstance) | (apply Y_nilCheck; rfl) | (apply Y_sub; rfl; rfl; omega)); rfl) | refine J.seq ?_ | refine J.region ?_ | refine JL.nil ?_ | (apply JL.store; (apply St_1 0; rfl; rfl; exact inferInstance; (first | rfl | assumption); rfl; rfl; (first | (focus (simp only [List.set_cons_zero, List.set_cons_succ]; done)) | (simp only [List.set_cons_zero, List.set_cons_succ]; rfl)))) | refine J.skip ?_)
  exact J.ret1 Try.func124 Try.results124 (RV.tm rfl) fun w' hw' => ⟨_, rfl, by simp [h0], (hx.trans hE).trans hw'.ext, by rw [if_neg h0]; exact hw'.has _ (.head _)⟩

/-! ### The document's -/
/-- empennageref11.New. -/
theorem rbNew_spec (r c : Int) (w : World) : Calls Try.prog 129 #[.int .i64 r, .int .i64 c] w fun e w' => e = .returned (.agg (bC (cl 0 64 r) (cl 1 64 c) (cl 1 64 c) 0).toArray) ∧ Ext No w w' := by
  refine Calls.of_G2 Try.func129 rfl Try.ntmps129 rfl ?_
  refine J.at (C := Cls w No []) ?_ (Cls.start _ _)
  repeat (first | (apply JL.y; (first | (apply Y_move; rfl) | (apply Y_assign; rfl) | (apply Y_min; rfl; rfl) | (apply Y_max; rfl; rfl) | (apply Y_build; rfl; exact inferInstance)); rfl) | refine J.seq ?_ | refine J.region ?_ | refine JL.nil ?_ | (apply JL.alloc; rfl; rfl; intro _) | (apply JL.store; (apply St_W 0; rfl; rfl; rfl; exact inferInstance; rfl; rfl; (first | (focus (simp [Value.oneCell']; done)) | (simp [Value.oneCell']; assumption) | (simp [Value.oneCell']; exact ⟨by assumption, by assumption⟩)); (first | (focus (simp only [List.set_cons_zero]; done)) | (simp only [List.set_cons_zero]; rfl)))))
  exact J.ret1 Try.func129 Try.results129 (RV.W 0 rfl rfl rfl) fun w' hw' => ⟨rfl, hw'.ext⟩
/-- empennageref11.Come. -/
theorem rbCome_spec {r c t rd : Int} (h : BIn r c t rd) (round : Int) (w : World) : Calls Try.prog 152 #[.agg (bC r c t rd).toArray, .int .i64 round] w fun e w' => e = .returned (.agg (bC r c (bTok r c t rd round) (bRnd rd round)).toArray) ∧ Ext No w w' := by
  have hr := h.hr
  have hc := h.hc
  have ht := h.ht
  have hrd := h.hrd
  have hcut := cut_in round
  have hgi := ssub_in round rd
  refine Calls.of_G2 Try.func152 rfl Try.ntmps152 rfl ?_
  refine J.at (C := Cls w No []) ?_ (Cls.start _ _)
  unfold bC
  repeat (first | (apply JL.y; (first | (apply Y_move; rfl) | (apply Y_assign; rfl)); rfl) | refine J.seq ?_ | refine J.region ?_ | refine JL.nil ?_ | (apply JL.callq; rfl; rfl; (intro wc hwc; first | exact rcut_spec _ _)) | (apply JL.box; rfl; rfl; rfl; intro _) | (apply JL.alloc; rfl; rfl; intro _) | refine J.block ?_)
  rename_i b2 b4
  refine J.intro fun wl hwl => ?_
  have b2l : w.heap.size ≤ b2 := (hwl.mine _ (.tail _ (.head _))).resolve_left id
  have b4l : w.heap.size ≤ b4 := (hwl.mine _ (.head _)).resolve_left id
  have b24 : b2 ≠ b4 := hwl.apart.1 _ (.head _)
  have hg : ssub round rd = max (cut round - rd) 0 := by unfold ssub; rw [cut_id hrd.1 hrd.2]
  refine G.loop (Inv := fun mm e wl => ∃ (i t' : Int), 0 ≤ i ∧ i ≤ 64 ∧ i ≤ ssub round rd ∧ mm = (64 - i).toNat ∧ t' = min (t + i * r) c ∧ Ext No w wl ∧ BlkIn wl ⟨b4, bC 0 0 0 0, 79⟩ ∧ BlkIn wl ⟨b2, bC r c t' rd, 79⟩ ∧ e = [(2, .pointer (some ⟨b2, 0, none⟩)), (4, .pointer (some ⟨b4, 0, none⟩)), (5, .int .i64 (cut round)), (6, .int .i64 i)])
    _ _ ⟨0, t, by omega, by omega, hgi.1, rfl, by simp; omega, hwl.ext, hwl.has _ (.head _), hwl.has _ (.tail _ (.head _)), rfl⟩ ⟨rfl, rfl, rfl, rfl, trivial⟩ ?_
  rintro mm e w1 ⟨i, t', hi0, hi64, hig, rfl, ht', hE, hB4, hB2, rfl⟩ ih
  have hp : 0 ≤ i * r := Int.mul_nonneg hi0 hr.1
  have hs1 : (i + 1) * r = i * r + r := by rw [Int.add_mul, Int.one_mul]
  refine J.at (C := Cls w1 (fun k => k = b4 ∨ k = b2) [_, _]) ?_ (Cls.start2 hB4 hB2 b24)
  unfold bC
  repeat (first | (apply JL.y; (first | (apply Y_move; rfl) | (apply Y_lss; rfl; rfl)); rfl) | refine J.seq ?_ | refine J.region ?_)
  by_cases h64 : i < 64
  · rw [decide_eq_true h64]
    repeat (first | (apply JL.y; (first | (apply Y_move; rfl) | (apply Y_fieldAddr; rfl; rfl) | (apply Y_load1 1; rfl; rfl; rfl; exact inferInstance) | (apply Y_lss; rfl; rfl) | (apply Y_add; rfl; rfl; omega) | (apply Y_pick_t; rfl; rfl)); rfl) | refine JL.nil ?_ | (apply JL.guard_yes; rfl; rfl; rfl))
    refine J.cond_d rfl (fun hlt => ?_) (fun hlt => ?_)
    · repeat (first | (apply JL.y; (first | (apply Y_move; rfl) | (apply Y_assign; rfl) | (apply Y_fieldAddr; rfl; rfl) | (apply Y_load1 1; rfl; rfl; rfl; exact inferInstance) | (apply Y_add; rfl; rfl; omega) | (apply Y_min; rfl; rfl)); rfl) | refine J.seq ?_ | refine J.region ?_ | refine JL.nil ?_ | (apply JL.store; (apply St_1 1; rfl; rfl; exact inferInstance; (first | rfl | assumption); rfl; rfl; (first | (focus (simp only [List.set_cons_zero, List.set_cons_succ]; done)) | (simp only [List.set_cons_zero, List.set_cons_succ]; rfl)))) | refine J.skip ?_ | refine J.block ?_ | refine J.inBlock ?_)
      refine J.intro fun w2 hw2 => ih (64 - (i + 1)).toNat (by omega) _ _ w2 ?_ ⟨i + 1, min (t' + r) c, by omega, by omega, by omega, rfl, by rw [ht', hs1]; omega, hE.then hw2.ext fun k h1 h2 => by omega, hw2.has _ (.head _), hw2.has _ (.tail _ (.head _)), rfl⟩
      exact ⟨rfl, rfl, rfl, rfl, trivial⟩
    · have he := rounds_end hr hc ht i hig (.inl (by omega))
      repeat (first | (apply JL.y; (first | (apply Y_move; rfl) | (apply Y_fieldAddr; rfl; rfl) | (apply Y_load1 1; rfl; rfl; rfl; exact inferInstance) | (apply Y_loadW 1; rfl; rfl; exact inferInstance; rfl) | (apply Y_max; rfl; rfl)); rfl) | refine J.seq ?_ | refine J.region ?_ | refine JL.nil ?_ | (apply JL.store; (first | (apply St_1 1; rfl; rfl; exact inferInstance; (first | rfl | assumption); rfl; rfl; (first | (focus (simp only [List.set_cons_zero, List.set_cons_succ]; done)) | (simp only [List.set_cons_zero, List.set_cons_succ]; rfl))) | (apply St_W 0; rfl; rfl; rfl; exact inferInstance; rfl; rfl; (first | (focus (simp [Value.oneCell']; done)) | (simp [Value.oneCell']; assumption) | (simp [Value.oneCell']; exact ⟨by assumption, by assumption⟩)); (first | (focus (simp only [List.set_cons_zero]; done)) | (simp only [List.set_cons_zero]; rfl))))) | (apply J.exit; rfl))
      refine J.ret1 Try.func152 Try.results152 (RV.W 0 rfl rfl rfl) fun w' hw' => ⟨?_, hE.then hw'.ext fun k h1 h2 => by omega⟩
      rw [ht', he]; rfl
  · rw [decide_eq_false h64]
    repeat (first | (apply JL.y; (apply Y_pick_f; rfl; rfl); rfl) | refine JL.nil ?_ | (apply JL.guard_no; rfl; rfl; rfl; rfl; rfl))
    apply J.cond_f rfl
    have he := rounds_end hr hc ht i hig (.inr (by omega))
    repeat (first | (apply JL.y; (first | (apply Y_move; rfl) | (apply Y_fieldAddr; rfl; rfl) | (apply Y_load1 1; rfl; rfl; rfl; exact inferInstance) | (apply Y_loadW 1; rfl; rfl; exact inferInstance; rfl) | (apply Y_max; rfl; rfl)); rfl) | refine J.seq ?_ | refine J.region ?_ | refine JL.nil ?_ | (apply JL.store; (first | (apply St_1 1; rfl; rfl; exact inferInstance; (first | rfl | assumption); rfl; rfl; (first | (focus (simp only [List.set_cons_zero, List.set_cons_succ]; done)) | (simp only [List.set_cons_zero, List.set_cons_succ]; rfl))) | (apply St_W 0; rfl; rfl; rfl; exact inferInstance; rfl; rfl; (first | (focus (simp [Value.oneCell']; done)) | (simp [Value.oneCell']; assumption) | (simp [Value.oneCell']; exact ⟨by assumption, by assumption⟩)); (first | (focus (simp only [List.set_cons_zero]; done)) | (simp only [List.set_cons_zero]; rfl))))) | (apply J.exit; rfl))
    refine J.ret1 Try.func152 Try.results152 (RV.W 0 rfl rfl rfl) fun w' hw' => ⟨?_, hE.then hw'.ext fun k h1 h2 => by omega⟩
    rw [ht', he]; rfl
/-- empennageref11.Take. -/
theorem rbTake_spec {r c t rd : Int} (h : BIn r c t rd) (round : Int) (w : World) : Calls Try.prog 132 #[.agg (bC r c t rd).toArray, .int .i64 round] w fun e w' => e = .returned (.tuple #[.agg (bC r c (if bTok r c t rd round = 0 then 0 else bTok r c t rd round - 1) (bRnd rd round)).toArray, .bool (decide (¬ bTok r c t rd round = 0))]) ∧ Ext No w w' := by
  have ht := h.tok round
  have hc := h.hc
  refine Calls.of_G2 Try.func132 rfl Try.ntmps132 rfl ?_
  refine J.at (C := Cls w No []) ?_ (Cls.start _ _)
  unfold bC
  repeat (first | (apply JL.y; (first | (apply Y_move; rfl) | (apply Y_assign; rfl) | (apply Y_loadW 1; rfl; rfl; exact inferInstance; rfl)); rfl) | refine J.seq ?_ | refine J.region ?_ | refine JL.nil ?_ | (apply JL.callq; rfl; rfl; (intro wc hwc; first | exact rbCome_spec h round _)) | (apply JL.box; rfl; rfl; rfl; intro _) | (apply JL.alloc; rfl; rfl; intro _))
  unfold bC
  repeat (first | (apply JL.y; (first | (apply Y_fieldAddr; rfl; rfl) | (apply Y_load1 1; rfl; rfl; rfl; exact inferInstance) | (apply Y_eql; rfl; rfl)); rfl) | refine J.seq ?_ | refine J.region ?_ | refine JL.nil ?_ | (apply JL.store; (apply St_W 1; rfl; rfl; rfl; exact inferInstance; rfl; rfl; (first | (focus (simp [Value.oneCell']; done)) | (simp [Value.oneCell']; assumption) | (simp [Value.oneCell']; exact ⟨by assumption, by assumption⟩)); (first | (focus (simp only [List.set_cons_zero, List.set_cons_succ]; done)) | (simp only [List.set_cons_zero, List.set_cons_succ]; rfl)))))
  refine J.cond_d rfl (fun h0 => ?_) (fun h0 => ?_)
  · repeat (first | (apply JL.y; (first | (apply Y_assign; rfl) | (apply Y_loadW 1; rfl; rfl; exact inferInstance; rfl)); rfl) | refine J.seq ?_ | refine J.region ?_ | refine JL.nil ?_ | (apply JL.store; (apply St_W 0; rfl; rfl; rfl; exact inferInstance; rfl; rfl; (first | (focus (simp [Value.oneCell']; done)) | (simp [Value.oneCell']; assumption) | (simp [Value.oneCell']; exact ⟨by assumption, by assumption⟩)); (first | (focus (simp only [List.set_cons_zero]; done)) | (simp only [List.set_cons_zero]; rfl)))))
    refine J.ret2 Try.func132 Try.results132 (RV.W 0 rfl rfl rfl) (RV.tm rfl) fun w' hw' => ⟨?_, hw'.ext⟩
    simp [h0]
  repeat (first | (apply JL.y; (first | (apply Y_assign; rfl) | (apply Y_fieldAddr; rfl; rfl) | (apply Y_load1 1; rfl; rfl; rfl; exact inferInstance) | (apply Y_loadW 1; rfl; rfl; exact inferInstance; rfl) | (apply Y_sub; rfl; rfl; omega)); rfl) | refine J.seq ?_ | refine J.region ?_ | refine JL.nil ?_ | (apply JL.store; (first | (apply St_1 1; rfl; rfl; exact inferInstance; (first | rfl | assumption); rfl; rfl; (first | (focus (simp only [List.set_cons_zero, List.set_cons_succ]; done)) | (simp only [List.set_cons_zero, List.set_cons_succ]; rfl))) | (apply St_W 0; rfl; rfl; rfl; exact inferInstance; rfl; rfl; (first | (focus (simp [Value.oneCell']; done)) | (simp [Value.oneCell']; assumption) | (simp [Value.oneCell']; exact ⟨by assumption, by assumption⟩)); (first | (focus (simp only [List.set_cons_zero]; done)) | (simp only [List.set_cons_zero]; rfl))))) | refine J.skip ?_)
  refine J.ret2 Try.func132 Try.results132 (RV.W 0 rfl rfl rfl) (RV.tm rfl) fun w' hw' => ⟨?_, hw'.ext⟩
  simp [h0]
end Go.Proofs.Ytmkpbbdocndfbaa
