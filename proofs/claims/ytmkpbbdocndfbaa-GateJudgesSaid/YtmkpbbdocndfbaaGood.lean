/- Channels that are right, made of any. -/
import Derived.Test.YtmkpbbdocndfbaaJudge
namespace Go.Proofs.Ytmkpbbdocndfbaa
open Go.RowKit Go.Proofs
attribute [local irreducible] Yl JL J G GL GA GQ DR DRA

def nearR (n least many : Int) : Int := least + (IntKind.u64.wrap n).tmod many
theorem near_in (n : Int) {least many : Int} (hm : 0 < many) : least ≤ nearR n least many ∧ nearR n least many < least + many := by
  have h1 := Int.tmod_nonneg many (wrap_u64_nonneg n)
  have h2 := Int.tmod_lt_of_pos (IntKind.u64.wrap n) hm
  unfold nearR; omega
theorem near_spec (n least many : Int) (hl : -10 ≤ least ∧ least ≤ 1000) (hm : 0 < many ∧ many ≤ 1000) (w : World) : Calls Try.prog 148 #[.int .i64 n, .int .i64 least, .int .i64 many] w fun e w' => e = .returned (.int .i64 (nearR n least many)) ∧ Ext No w w' := by
  have h1 := near_in n (least := least) hm.1
  obtain ⟨q, hq⟩ : ∃ q, q = (IntKind.u64.wrap n).tmod many := ⟨_, rfl⟩
  have hr : nearR n least many = least + q := by rw [hq]; rfl
  rw [hr] at h1 ⊢
  refine Calls.of_G3 Try.func148 rfl Try.ntmps148 rfl ?_
  refine J.at (C := Cls w No []) ?_ (Cls.start _ _)
  repeat (first | (apply JL.y; (first | (apply Y_move; rfl) | (apply Y_assign; rfl)); rfl) | refine J.seq ?_ | refine J.region ?_ | refine JL.nil ?_)
  apply JL.y (Y_conv rfl) rfl
  repeat (first | (apply JL.y; (first | (apply Y_move; rfl) | (apply Y_convU; rfl; omega)); rfl))
  apply JL.y (Y_rem rfl rfl (by omega)) rfl
  rw [← hq]
  repeat (first | (apply JL.y; (first | (apply Y_assign; rfl) | (apply Y_add; rfl; rfl; omega) | (apply Y_convI; rfl; omega)); rfl) | refine JL.nil ?_)
  exact J.ret1 Try.func148 Try.results148 (RV.tm rfl) fun w' hw => ⟨rfl, hw.ext⟩
/-- The one that is made. -/
def goodC (k : Ch) : Ch := ⟨1, nearR k.from_ 0 2, (nearR k.from_ 0 2 + nearR k.to 1 1).tmod 2, nearR k.words 1 4, 0, nearR k.lanes 1 3, nearR k.depth 1 4, nearR k.hold 1 4, nearR k.life 1 60, nearR k.rate 0 5, nearR k.cap 1 6⟩
theorem near1 : nearR 1 0 2 = 1 := by decide
theorem near0 : nearR 0 0 3 = 0 := by decide
theorem near14 : nearR 1 1 4 = 2 := by decide
set_option maxHeartbeats 1000000 in
/-- empennageref04.channel, of a queuing one, of two partitions. -/
theorem channel_spec (k : Ch) (hk : k.kind = 1) (W : World) : Calls Try.prog 149 #[.agg (chC k).toArray, .int .i64 2] W fun e w' => e = .returned (.agg (chC (goodC k)).toArray) ∧ Ext No W w' := by
  have hf := near_in k.from_ (least := 0) (many := 2) (by decide)
  have ht := near_in k.to (least := 1) (many := 2 - 1) (by decide)
  refine Calls.of_G2 Try.func149 rfl Try.ntmps149 rfl ?_
  refine J.at (C := Cls W No []) ?_ (Cls.start _ _)
  unfold chC
  rw [hk]
  repeat (first | refine J.seq ?_ | refine J.region ?_ | refine JL.nil ?_ | (apply JL.box; rfl; rfl; rfl; intro _) | (apply JL.alloc; rfl; rfl; intro _))
  rename_i b2 b4
  have hS0 : ∀ w' : World, Cls W No [⟨b4, [.int .i64 0, .int .i64 0, .int .i64 0, .int .i64 0, .int .i64 0, .int .i64 0, .int .i64 0, .int .i64 0, .int .i64 0, .int .i64 0, .int .i64 0], 61⟩, ⟨b2, [.int .i64 1, .int .i64 k.from_, .int .i64 k.to, .int .i64 k.words, .int .i64 k.refresh, .int .i64 k.lanes, .int .i64 k.depth, .int .i64 k.hold, .int .i64 k.life, .int .i64 k.rate, .int .i64 k.cap], 61⟩] w' → b4 < w'.heap.size ∧ b2 < w'.heap.size := fun w' h => ⟨(h.has _ (.head _)).lt, (h.has _ (.tail _ (.head _))).lt⟩
  refine J.intro fun w1 hw1 => ?_
  have hB4 := hw1.has _ (.head _)
  have hB2 := hw1.has _ (.tail _ (.head _))
  have b24 : b2 ≠ b4 := hw1.apart.1 _ (.head _)
  have b4l : W.heap.size ≤ b4 := hw1.fresh fun _ h => h.elim
  have b2l : W.heap.size ≤ b2 := (hw1.mine _ (.tail _ (.head _))).resolve_left id
  have u4 := hB4.lt
  have u2 := hB2.lt
  simp only at u4 u2
  refine J.at (C := Cls w1 (fun k => k = b4 ∨ k = b2) [_, _]) ?_ (Cls.start2 hB4 hB2 b24)
  refine J.draw (S := Cls _ _ _) [12] #[false, false, false, false, false, false, false, false, false, false, false, false, false] rfl rfl (fun w hw => hw.drew) (fun w hS => ?_)
  (apply DR.pure 0 #[true, false, false, false, false, false, false, false, false, false, false, false, false]; rfl; kernel_rfl; (apply Y_fieldAddr; rfl; rfl); rfl)
  (apply DR.take 1 #[true, true, false, false, false, false, false, false, false, false, false, false, false]; rfl; kernel_rfl; (first | (apply Y_load1 0; rfl; rfl; rfl; exact inferInstance) | (apply Y_load1 1; rfl; rfl; rfl; exact inferInstance) | (apply Y_load1 2; rfl; rfl; rfl; exact inferInstance) | (apply Y_load1 3; rfl; rfl; rfl; exact inferInstance) | (apply Y_loadW 0; rfl; rfl; exact inferInstance; rfl) | (apply Y_loadW 1; rfl; rfl; exact inferInstance; rfl) | (apply Y_loadW 2; rfl; rfl; exact inferInstance; rfl) | (apply Y_loadW 3; rfl; rfl; exact inferInstance; rfl)); rfl; exact hS)
  (apply DR.pure 3 #[true, true, false, true, false, false, false, false, false, false, false, false, false]; rfl; kernel_rfl; (apply Y_fieldAddr; rfl; rfl); rfl)
  (apply DR.take 4 #[true, true, false, true, true, false, false, false, false, false, false, false, false]; rfl; kernel_rfl; (first | (apply Y_load1 0; rfl; rfl; rfl; exact inferInstance) | (apply Y_load1 1; rfl; rfl; rfl; exact inferInstance) | (apply Y_load1 2; rfl; rfl; rfl; exact inferInstance) | (apply Y_load1 3; rfl; rfl; rfl; exact inferInstance) | (apply Y_loadW 0; rfl; rfl; exact inferInstance; rfl) | (apply Y_loadW 1; rfl; rfl; exact inferInstance; rfl) | (apply Y_loadW 2; rfl; rfl; exact inferInstance; rfl) | (apply Y_loadW 3; rfl; rfl; exact inferInstance; rfl)); rfl; exact hS)
  (apply DR.pure 5 #[true, true, false, true, true, true, false, false, false, false, false, false, false]; rfl; kernel_rfl; (apply Y_move; rfl); rfl)
  (apply DR.pure 7 #[true, true, false, true, true, true, false, true, false, false, false, false, false]; rfl; kernel_rfl; (apply Y_fieldAddr; rfl; rfl); rfl)
  (apply DR.take 8 #[true, true, false, true, true, true, false, true, true, false, false, false, false]; rfl; kernel_rfl; (first | (apply Y_load1 0; rfl; rfl; rfl; exact inferInstance) | (apply Y_load1 1; rfl; rfl; rfl; exact inferInstance) | (apply Y_load1 2; rfl; rfl; rfl; exact inferInstance) | (apply Y_load1 3; rfl; rfl; rfl; exact inferInstance) | (apply Y_loadW 0; rfl; rfl; exact inferInstance; rfl) | (apply Y_loadW 1; rfl; rfl; exact inferInstance; rfl) | (apply Y_loadW 2; rfl; rfl; exact inferInstance; rfl) | (apply Y_loadW 3; rfl; rfl; exact inferInstance; rfl)); rfl; exact hS)
  refine DRA.go (l' := #[true, true, false, true, true, true, false, true, true, false, false, true, false]) (w0 := w1) (d := 5) (cs := [.int .i64 0, .int .i64 0, .int .i64 0, .int .i64 0, .int .i64 0, .int .i64 0, .int .i64 0, .int .i64 0, .int .i64 0, .int .i64 0, .int .i64 0]) (t := 61) (U := No) ?_
  refine DRA.callq 11 2 #[true, true, true, true, true, true, false, true, true, false, false, false, false] #[true, true, true, true, true, true, false, true, true, false, false, true, false] rfl rfl (by kernel_rfl) (by kernel_rfl) rfl rfl rfl rfl rfl rfl rfl inferInstance rfl hS (fun _ _ h he => h.ext0 he) (fun _ h => h.ext.size) (fun _ h => h.elim) (fun w3 hE3 hS3 => near_spec _ _ _ (by omega) (by omega) _) (fun w4 hE4 hS hU => ?_)
  refine DRA.callq 11 6 #[true, true, true, true, true, true, true, true, true, false, false, false, false] #[true, true, true, true, true, true, true, true, true, false, false, true, false] rfl rfl (by kernel_rfl) (by kernel_rfl) rfl rfl rfl rfl rfl rfl rfl inferInstance rfl hS (fun _ _ h he => h.ext0 he) (fun _ h => h.ext.size) hU (fun w3 hE3 hS3 => near_spec _ _ _ (by omega) (by omega) _) (fun w4 hE4 hS hU => ?_)
  refine DRA.callq 11 9 #[true, true, true, true, true, true, true, true, true, true, false, false, false] #[true, true, true, true, true, true, true, true, true, true, false, true, false] rfl rfl (by kernel_rfl) (by kernel_rfl) rfl rfl rfl rfl rfl rfl rfl inferInstance rfl hS (fun _ _ h he => h.ext0 he) (fun _ h => h.ext.size) hU (fun w3 hE3 hS3 => near_spec _ _ _ (by omega) (by omega) _) (fun w4 hE4 hS hU => ?_)
  (apply DRA.pure 10 #[true, true, true, true, true, true, true, true, true, true, true, false, false] #[true, true, true, true, true, true, true, true, true, true, true, true, false]; rfl; kernel_rfl; kernel_rfl; (apply Y_build; rfl; exact inferInstance); rfl; rfl; rfl)
  refine DRA.end_ 11 rfl (by kernel_rfl) rfl rfl inferInstance rfl hS (fun _ _ h he => h.ext0 he) (fun _ h => h.ext.size) hU (fun b5 w7 hE7 hS b5l _ hB5 => ?_)
  (apply DR.store 12 #[true, true, true, true, true, true, true, true, true, true, true, true, true]; rfl; kernel_rfl; rfl; exact (Cls.start3 hB5 (hS.has _ (.head _)) (hS.has _ (.tail _ (.head _))) (by simp only; omega) (by simp only; omega) b24); (apply St_W 0; rfl; rfl; rfl; exact inferInstance; rfl; rfl; simp [Value.oneCell']; rfl); intro w8 hC8)
  refine DR.done (by kernel_rfl) ?_
  have hx7 := hS.ext
  refine J.at (C := Cls w7 (fun k => k = b5 ∨ k = b4 ∨ k = b2) [_, _, _]) ?_ hC8
  rw [near1]
  have hD : ∀ k, k < W.heap.size → ¬ (k = b5 ∨ k = b4 ∨ k = b2) := fun k h h' => by have := hw1.ext.size; omega
  repeat (first | refine J.seq ?_)
  refine J.draw (S := Cls _ _ _) [11] #[false, false, false, false, false, false, false, false, false, false, false, false] rfl rfl (fun w hw => hw.drew) (fun w hS => ?_)
  (apply DR.pure 0 #[true, false, false, false, false, false, false, false, false, false, false, false]; rfl; kernel_rfl; (apply Y_fieldAddr; rfl; rfl); rfl)
  (apply DR.take 1 #[true, true, false, false, false, false, false, false, false, false, false, false]; rfl; kernel_rfl; (first | (apply Y_load1 0; rfl; rfl; rfl; exact inferInstance) | (apply Y_load1 1; rfl; rfl; rfl; exact inferInstance) | (apply Y_load1 2; rfl; rfl; rfl; exact inferInstance) | (apply Y_load1 3; rfl; rfl; rfl; exact inferInstance) | (apply Y_loadW 0; rfl; rfl; exact inferInstance; rfl) | (apply Y_loadW 1; rfl; rfl; exact inferInstance; rfl) | (apply Y_loadW 2; rfl; rfl; exact inferInstance; rfl) | (apply Y_loadW 3; rfl; rfl; exact inferInstance; rfl)); rfl; exact hS)
  (apply DR.pure 2 #[true, true, true, false, false, false, false, false, false, false, false, false]; rfl; kernel_rfl; (apply Y_fieldAddr; rfl; rfl); rfl)
  (apply DR.take 3 #[true, true, true, true, false, false, false, false, false, false, false, false]; rfl; kernel_rfl; (first | (apply Y_load1 0; rfl; rfl; rfl; exact inferInstance) | (apply Y_load1 1; rfl; rfl; rfl; exact inferInstance) | (apply Y_load1 2; rfl; rfl; rfl; exact inferInstance) | (apply Y_load1 3; rfl; rfl; rfl; exact inferInstance) | (apply Y_loadW 0; rfl; rfl; exact inferInstance; rfl) | (apply Y_loadW 1; rfl; rfl; exact inferInstance; rfl) | (apply Y_loadW 2; rfl; rfl; exact inferInstance; rfl) | (apply Y_loadW 3; rfl; rfl; exact inferInstance; rfl)); rfl; exact hS)
  (apply DR.pure 4 #[true, true, true, true, true, false, false, false, false, false, false, false]; rfl; kernel_rfl; (apply Y_move; rfl); rfl)
  (apply DR.pure 5 #[true, true, true, true, true, true, false, false, false, false, false, false]; rfl; kernel_rfl; (apply Y_sub; rfl; rfl; omega); rfl)
  (apply DR.pure 8 #[true, true, true, true, true, true, false, false, true, false, false, false]; rfl; kernel_rfl; (apply Y_move; rfl); rfl)
  refine DR.callq 6 #[true, true, true, true, true, true, true, false, true, false, false, false] rfl (by kernel_rfl) rfl rfl rfl (near_spec _ _ _ (by omega) (by omega) _) (fun w' hw' => hS.ext0 hw') (fun w hE2 hS => ?_)
  (apply DR.pure 7 #[true, true, true, true, true, true, true, true, true, false, false, false]; rfl; kernel_rfl; (apply Y_add; rfl; rfl; omega); rfl)
  (apply DR.take 9 #[true, true, true, true, true, true, true, true, true, true, false, false]; rfl; kernel_rfl; exact Y_rem rfl rfl (by decide); rfl; exact hS)
  (apply DR.pure 10 #[true, true, true, true, true, true, true, true, true, true, true, false]; rfl; kernel_rfl; (apply Y_fieldAddr; rfl; rfl); rfl)
  (apply DR.store 11 #[true, true, true, true, true, true, true, true, true, true, true, true]; rfl; kernel_rfl; rfl; exact hS; (apply St_1 0; rfl; rfl; exact inferInstance; rfl; rfl; rfl; rfl); intro w9 hC9)
  refine DR.done (by kernel_rfl) ?_
  refine J.at (C := Cls w7 (fun k => k = b5 ∨ k = b4 ∨ k = b2) [_, _, _]) ?_ hC9
  repeat (first | (apply JL.y; (first | (apply Y_fieldAddr; rfl; rfl) | (apply Y_load1 0; rfl; rfl; rfl; exact inferInstance) | (apply Y_load1 2; rfl; rfl; rfl; exact inferInstance) | (apply Y_loadW 0; rfl; rfl; exact inferInstance; rfl) | (apply Y_eql; rfl; rfl)); rfl) | refine J.seq ?_ | refine J.region ?_ | refine JL.nil ?_ | (apply JL.callq; rfl; rfl; (intro wc hwc; first | exact near_spec _ _ _ (by omega) (by omega) _)) | (apply JL.store; (first | (apply St_1 0; rfl; rfl; exact inferInstance; (first | rfl | assumption); rfl; rfl; (first | (focus (simp only [List.set_cons_zero, List.set_cons_succ]; done)) | (simp only [List.set_cons_zero, List.set_cons_succ]; rfl))) | (apply St_W 1; rfl; rfl; rfl; exact inferInstance; rfl; rfl; (first | (focus (simp [Value.oneCell']; done)) | (simp [Value.oneCell']; assumption) | (simp [Value.oneCell']; exact ⟨by assumption, by assumption⟩)); (first | (focus (simp only [List.set_cons_zero, List.set_cons_succ]; done)) | (simp only [List.set_cons_zero, List.set_cons_succ]; rfl))))) | refine J.skip ?_ | refine J.cond_f rfl ?_)
  refine J.ret1 Try.func149 Try.results149 (RV.W 1 rfl rfl rfl) fun w' hw' => ⟨rfl, ((hw1.ext.then hx7 fun k h1 h2 => by omega)).then hw'.ext fun k h1 h2 => hD k h1 h2⟩
end Go.Proofs.Ytmkpbbdocndfbaa
