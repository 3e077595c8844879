/- Configs that are right, made of one channel. -/
import Derived.Test.YtmkpbbdocndfbaaGood
namespace Go.Proofs.Ytmkpbbdocndfbaa
open Go.RowKit Go.Proofs
attribute [local irreducible] Yl JL J G GL GA GQ DR DRA

set_option maxHeartbeats 2000000 in
/-- empennageref04.Good of one partition, one channel. -/
theorem good_spec {W : World} {bk : Nat} {k : Ch} (hk : k.kind = 1) (hB : BlkIn W ⟨bk, chC k, 61⟩) :
    Calls Try.prog 120 #[.agg #[.int .i64 1, .int .i64 0, .slice none 0 0, .slice (some ⟨bk, 0, none⟩) 1 1, .slice none 0 0]] W fun e w' => ∃ r, e = .returned r ∧ Ext No W w' ∧ ∃ f wv g c av, r = .agg #[.int .i64 2, f, wv, .slice (some ⟨g, 0, none⟩) 1 c, av] ∧ f.oneCell' = true ∧ wv.oneCell' = true ∧ av.oneCell' = true ∧ Row w' 61 11 (.slice (some ⟨g, 0, none⟩) 1 c) [chC (goodC k)] := by
  have ubk := hB.lt
  simp only at ubk
  refine Calls.of_G1 Try.func120 rfl Try.ntmps120 rfl ?_
  refine J.at (C := Cls W No []) ?_ (Cls.start _ _)
  repeat (first | (apply JL.y; (first | (apply Y_assign; rfl) | (apply Y_fieldAddr; rfl; rfl) | (apply Y_load1 1; rfl; rfl; rfl; exact inferInstance) | (apply Y_build; rfl; exact inferInstance)); rfl) | refine J.seq ?_ | refine J.region ?_ | refine JL.nil ?_ | (apply JL.callq; rfl; rfl; (intro wc hwc; first | exact near_spec _ _ _ (by omega) (by omega) _)) | (apply JL.box; rfl; rfl; rfl; intro _) | (apply JL.alloc; rfl; rfl; intro _) | (apply JL.store; (apply St_W 0; rfl; rfl; rfl; exact inferInstance; rfl; rfl; (first | (focus (simp [Value.oneCell']; done)) | (simp [Value.oneCell']; assumption) | (simp [Value.oneCell']; exact ⟨by assumption, by assumption⟩)); (first | (focus (simp only [List.set_cons_zero]; done)) | (simp only [List.set_cons_zero]; rfl)))) | refine J.block ?_)
  rw [near14]
  apply J.loop1
  repeat (first | (apply JL.y; (first | (apply Y_move; rfl) | (apply Y_assign; rfl) | (apply Y_fieldAddr; rfl; rfl) | (apply Y_load1 0; rfl; rfl; rfl; exact inferInstance) | (apply Y_load1 2; rfl; rfl; rfl; exact inferInstance) | (apply Y_load1 3; rfl; rfl; rfl; exact inferInstance) | (apply Y_len; rfl) | (apply Y_eql; rfl; rfl) | (apply Y_lss; rfl; rfl) | (apply Y_build; rfl; exact inferInstance) | (apply Y_pick_f; rfl; rfl)); rfl) | refine J.seq ?_ | refine J.region ?_ | refine JL.nil ?_ | (apply JL.callq; rfl; rfl; (intro wc hwc; first | exact near_spec _ _ _ (by omega) (by omega) _)) | (apply JL.bslice1; rfl; rfl; rfl; rfl; rfl; rfl; intro _) | (apply JL.store; (apply St_1 1; rfl; rfl; exact inferInstance; (first | rfl | assumption); rfl; rfl; (first | (focus (simp only [List.set_cons_zero, List.set_cons_succ]; done)) | (simp only [List.set_cons_zero, List.set_cons_succ]; rfl)))) | (apply JL.guard_no; rfl; rfl; rfl; rfl; rfl) | refine J.cond_t rfl ?_ | refine J.cond_f rfl ?_ | (apply J.exit; rfl))
  rw [near0]
  repeat (first | (apply JL.y; (first | (apply Y_assign; rfl) | (apply Y_fieldAddr; rfl; rfl) | (apply Y_add; rfl; rfl; omega)); rfl) | refine J.seq ?_ | refine J.region ?_ | refine JL.nil ?_ | (apply JL.store; (apply St_1 1; rfl; rfl; exact inferInstance; (first | rfl | assumption); rfl; rfl; (first | (focus (simp only [List.set_cons_zero, List.set_cons_succ]; done)) | (simp only [List.set_cons_zero, List.set_cons_succ]; rfl)))) | refine J.block ?_)
  rename_i b1 b2 b3 bw
  refine J.intro fun w1 hw1 => ?_
  have hBw := hw1.has _ (.head _)
  have hB3 := hw1.has _ (.tail _ (.head _))
  have hB2 := hw1.has _ (.tail _ (.tail _ (.head _)))
  have hB1 := hw1.has _ (.tail _ (.tail _ (.tail _ (.head _))))
  have b3l : W.heap.size ≤ b3 := (hw1.mine _ (.tail _ (.head _))).resolve_left id
  have b2l : W.heap.size ≤ b2 := (hw1.mine _ (.tail _ (.tail _ (.head _)))).resolve_left id
  have b1l : W.heap.size ≤ b1 := (hw1.mine _ (.tail _ (.tail _ (.tail _ (.head _))))).resolve_left id
  have b23 : b2 ≠ b3 := hw1.apart.2.1 _ (.head _)
  have b13 : b1 ≠ b3 := hw1.apart.2.1 _ (.tail _ (.head _))
  have b12 : b1 ≠ b2 := hw1.apart.2.2.1 _ (.head _)
  have u3 := hB3.lt
  have u2 := hB2.lt
  have u1 := hB1.lt
  simp only at u3 u2 u1
  have hX1 : Ext No W w1 := hw1.ext
  have hB := hB.ext0 hX1
  have hRk : Rd 11 (fun _ c x => c = chC x) w1 (fun q => q = bk) (.slice (some ⟨bk, 0, none⟩) 1 1) [(chC k, k)] :=
    ⟨hB.foot.imp fun w hw => (Row.of_blk (el := 61) (sz := 11) (chs := [chC k]) hw (by simp) (by simp [chC]) rfl (by simp [maxLen])).rrow, fun z hz => Foot.pure fun _ => by simp at hz; subst hz; rfl⟩
  have lk := hRk.lds (P := Try.prog) (t := 61) (i := 0) rfl
  refine J.at (C := Cls w1 (fun k => k = b3 ∨ k = b2 ∨ k = b1) [_, _, _]) ?_ (Cls.start3 hB3 hB2 hB1 b23 b13 b12)
  apply J.loop1
  repeat (first | (apply JL.y; (first | (apply Y_move; rfl) | (apply Y_fieldAddr; rfl; rfl) | (apply Y_load1 0; rfl; rfl; rfl; exact inferInstance) | (apply Y_load1 2; rfl; rfl; rfl; exact inferInstance) | (apply Y_len; rfl) | (apply Y_lss; rfl; rfl) | (apply Y_gtr; rfl; rfl) | (apply Y_pick_t; rfl; rfl)); rfl) | refine J.seq ?_ | refine J.region ?_ | refine JL.nil ?_ | (apply JL.guard_yes; rfl; rfl; rfl) | refine J.skip ?_ | refine J.cond_t rfl ?_ | refine J.block ?_)
  refine J.draw (S := Cls w1 (fun k => k = b3 ∨ k = b2 ∨ k = b1) [_, _, _]) [11, 13] #[false, false, false, false, false, false, false, false, false, false, false, false, false, false] rfl rfl (fun w hw => hw.drew) (fun w hS => ?_)
  (apply DR.pure 0 #[true, false, false, false, false, false, false, false, false, false, false, false, false, false]; rfl; kernel_rfl; (apply Y_fieldAddr; rfl; rfl); rfl)
  (apply DR.take 1 #[true, true, false, false, false, false, false, false, false, false, false, false, false, false]; rfl; kernel_rfl; (first | (apply Y_load1 0; rfl; rfl; rfl; exact inferInstance) | (apply Y_load1 1; rfl; rfl; rfl; exact inferInstance) | (apply Y_load1 2; rfl; rfl; rfl; exact inferInstance) | (apply Y_load1 3; rfl; rfl; rfl; exact inferInstance) | (apply Y_loadW 0; rfl; rfl; exact inferInstance; rfl) | (apply Y_loadW 1; rfl; rfl; exact inferInstance; rfl) | (apply Y_loadW 2; rfl; rfl; exact inferInstance; rfl) | (apply Y_loadW 3; rfl; rfl; exact inferInstance; rfl)); rfl; exact hS)
  (apply DR.pure 2 #[true, true, true, false, false, false, false, false, false, false, false, false, false, false]; rfl; kernel_rfl; (apply Y_fieldAddr; rfl; rfl); rfl)
  (apply DR.take 3 #[true, true, true, true, false, false, false, false, false, false, false, false, false, false]; rfl; kernel_rfl; (first | (apply Y_load1 0; rfl; rfl; rfl; exact inferInstance) | (apply Y_load1 1; rfl; rfl; rfl; exact inferInstance) | (apply Y_load1 2; rfl; rfl; rfl; exact inferInstance) | (apply Y_load1 3; rfl; rfl; rfl; exact inferInstance) | (apply Y_loadW 0; rfl; rfl; exact inferInstance; rfl) | (apply Y_loadW 1; rfl; rfl; exact inferInstance; rfl) | (apply Y_loadW 2; rfl; rfl; exact inferInstance; rfl) | (apply Y_loadW 3; rfl; rfl; exact inferInstance; rfl)); rfl; exact hS)
  (apply DR.pure 4 #[true, true, true, true, true, false, false, false, false, false, false, false, false, false]; rfl; kernel_rfl; (apply Y_move; rfl); rfl)
  (apply DR.take 5 #[true, true, true, true, true, true, false, false, false, false, false, false, false, false]; rfl; kernel_rfl; exact Y_indexAddr rfl rfl (by omega); rfl; exact hS)
  (apply DR.take 6 #[true, true, true, true, true, true, true, false, false, false, false, false, false, false]; rfl; kernel_rfl; exact Y_loadP rfl fun w hw => lk.at_ hw.ext fun q _ h1 h2 => (by omega); rfl; exact hS)
  (apply DR.pure 7 #[true, true, true, true, true, true, true, true, false, false, false, false, false, false]; rfl; kernel_rfl; (apply Y_fieldAddr; rfl; rfl); rfl)
  (apply DR.take 8 #[true, true, true, true, true, true, true, true, true, false, false, false, false, false]; rfl; kernel_rfl; (first | (apply Y_load1 0; rfl; rfl; rfl; exact inferInstance) | (apply Y_load1 1; rfl; rfl; rfl; exact inferInstance) | (apply Y_load1 2; rfl; rfl; rfl; exact inferInstance) | (apply Y_load1 3; rfl; rfl; rfl; exact inferInstance) | (apply Y_loadW 0; rfl; rfl; exact inferInstance; rfl) | (apply Y_loadW 1; rfl; rfl; exact inferInstance; rfl) | (apply Y_loadW 2; rfl; rfl; exact inferInstance; rfl) | (apply Y_loadW 3; rfl; rfl; exact inferInstance; rfl)); rfl; exact hS)
  refine DR.callq 9 #[true, true, true, true, true, true, true, true, true, true, false, false, false, false] rfl (by kernel_rfl) rfl rfl rfl (channel_spec k hk _) (fun w' hw' => hS.ext0 hw') (fun w2 hE2 hS => ?_)
  refine DR.bslice1 10 #[true, true, true, true, true, true, true, true, true, true, true, false, false, false] rfl (by kernel_rfl) rfl inferInstance inferInstance rfl rfl rfl rfl rfl rfl (Cls.start No w2) (fun w' hw' => hS.ext0 hw') (fun bb w3 hC3 hS => ?_)
  refine DR.append1 11 #[true, true, true, true, true, true, true, true, true, true, true, true, false, false] rfl (by kernel_rfl) rfl inferInstance rfl rfl (Row.nil w3 61 11) (hC3.has _ (.head _)) rfl rfl (by simp [chC, Value.oneCell']) (by simp) rfl rfl (fun v' w4 hrow hapd => ?_)
  have hE1 : Ext No w1 w3 := hS.still fun q h => by
    rcases h with rfl | rfl | rfl
    · exact ⟨_, .head _, rfl, hB3⟩
    · exact ⟨_, .tail _ (.head _), rfl, hB2⟩
    · exact ⟨_, .tail _ (.tail _ (.head _)), rfl, hB1⟩
  have hX3 := hX1.trans hE1
  have hE4 : Ext No w3 w4 := hapd.ext.mono fun q _ h => by simp [Value.ownBlock] at h
  have hv1 : v'.oneCell' = true := hrow.one
  obtain ⟨g, cap, _, hgv, _⟩ := hrow.block (by simp)
  simp only [List.nil_append, List.length_cons, List.length_nil, Nat.zero_add] at hgv hrow
  subst hgv
  have hgl : w3.heap.size ≤ g := by
    rcases hapd.at_ with h1 | h1 <;> simp [Value.ownBlock] at h1
    omega
  (apply DR.pure 12 #[true, true, true, true, true, true, true, true, true, true, true, true, true, false]; rfl; kernel_rfl; (apply Y_fieldAddr; rfl; rfl); rfl)
  (apply DR.store 13 #[true, true, true, true, true, true, true, true, true, true, true, true, true, true]; rfl; kernel_rfl; rfl; exact (Cls.start3 (hB3.ext0 (hE1.trans hE4)) (hB2.ext0 (hE1.trans hE4)) (hB1.ext0 (hE1.trans hE4)) b23 b13 b12); (apply St_1 0; rfl; rfl; exact inferInstance; rfl; rfl; rfl; rfl); intro w5 hC5)
  refine DR.done (by kernel_rfl) ?_
  have s3 := hX3.size
  have s1 := hX1.size
  have s13 := hE1.size
  refine J.at (C := Cls w4 (fun k => k = b3 ∨ k = b2 ∨ k = b1) [_, _, _]) ?_ hC5
  repeat (first | (apply JL.y; (first | (apply Y_move; rfl) | (apply Y_assign; rfl) | (apply Y_add; rfl; rfl; omega)); rfl) | refine J.region ?_ | refine JL.nil ?_ | refine J.inBlock ?_)
  apply J.inLoop1
  repeat (first | (apply JL.y; (first | (apply Y_move; rfl) | (apply Y_assign; rfl) | (apply Y_fieldAddr; rfl; rfl) | (apply Y_load1 2; rfl; rfl; rfl; exact inferInstance) | (apply Y_len; rfl) | (apply Y_lss; rfl; rfl) | (apply Y_pick_f; rfl; rfl)); rfl) | refine J.seq ?_ | refine J.region ?_ | refine JL.nil ?_ | (apply JL.guard_no; rfl; rfl; rfl; rfl; rfl) | refine J.cond_f rfl ?_ | refine J.block ?_ | (apply J.exit; rfl))
  apply J.loop1
  repeat (first | (apply JL.y; (first | (apply Y_move; rfl) | (apply Y_assign; rfl) | (apply Y_fieldAddr; rfl; rfl) | (apply Y_load1 0; rfl; rfl; rfl; exact inferInstance) | (apply Y_load1 2; rfl; rfl; rfl; exact inferInstance) | (apply Y_len; rfl) | (apply Y_lss; rfl; rfl)); rfl) | refine J.seq ?_ | refine J.region ?_ | refine JL.nil ?_ | (apply JL.bslice1; rfl; rfl; rfl; rfl; rfl; rfl; intro _) | refine J.skip ?_ | refine J.cond_t rfl ?_ | refine J.cond_f rfl ?_ | refine J.block ?_)
  refine JL.intro fun w6 hw6 => ?_
  have hX6 : Ext No W w6 := ((hX3.trans hE4)).then hw6.ext fun q h1 h2 => by omega
  have hrow6 := hrow.ext hw6.ext fun q h1 h2 => by simp [Value.ownBlock] at h1; omega
  have s6 := hw6.ext.size
  have s4 := hE4.size
  have hB3 := hw6.has _ (.tail _ (.head _))
  have hB2 := hw6.has _ (.tail _ (.tail _ (.head _)))
  have hB1 := hw6.has _ (.tail _ (.tail _ (.tail _ (.head _))))
  have gu := hrow6.lt (g := g) rfl
  refine GL.append1 rfl rfl (Row.nil w6 3 1) (hw6.has _ (.head _)) rfl rfl (by simp [Value.oneCell']) (by simp) rfl rfl fun v7 w7 hrow7 hapd7 => ?_
  have hE7 : Ext No w6 w7 := hapd7.ext.mono fun q _ h => by simp [Value.ownBlock] at h
  have hv7 : v7.oneCell' = true := hrow7.one
  have h7l : ∀ q, v7.ownBlock = some q → w6.heap.size ≤ q := fun q h => by
    rcases hapd7.at_ with h1 | h1 <;> rw [h1] at h
    · simp [Value.ownBlock] at h
    · injection h with h; omega
  refine GL.of_JL (C := Cls w7 (fun k => k = b3 ∨ k = b2 ∨ k = b1) [_, _, _]) (Cls.start3 (hB3.ext0 hE7) (hB2.ext0 hE7) (hB1.ext0 hE7) b23 b13 b12) ?_
  repeat (first | (apply JL.y; (first | (apply Y_move; rfl) | (apply Y_assign; rfl) | (apply Y_fieldAddr; rfl; rfl) | (apply Y_add; rfl; rfl; omega)); rfl) | refine J.region ?_ | refine JL.nil ?_ | (apply JL.store; (apply St_1 0; rfl; rfl; exact inferInstance; (first | rfl | assumption); rfl; rfl; (first | (focus (simp only [List.set_cons_zero, List.set_cons_succ]; done)) | (simp only [List.set_cons_zero, List.set_cons_succ]; rfl)))) | refine J.inBlock ?_)
  apply J.inLoop1
  repeat (first | (apply JL.y; (first | (apply Y_move; rfl) | (apply Y_assign; rfl) | (apply Y_fieldAddr; rfl; rfl) | (apply Y_load1 0; rfl; rfl; rfl; exact inferInstance) | (apply Y_load1 2; rfl; rfl; rfl; exact inferInstance) | (apply Y_len; rfl) | (apply Y_lss; rfl; rfl)); rfl) | refine J.seq ?_ | refine J.region ?_ | refine JL.nil ?_ | (apply JL.bslice1; rfl; rfl; rfl; rfl; rfl; rfl; intro _) | refine J.skip ?_ | refine J.cond_t rfl ?_ | refine J.cond_f rfl ?_ | refine J.block ?_)
  refine JL.intro fun w8 hw8 => ?_
  have hX8 : Ext No W w8 := (hX6.trans hE7).then hw8.ext fun q h1 h2 => by omega
  have hrow8 := (hrow6.ext0 hE7).ext hw8.ext fun q h1 h2 => by simp [Value.ownBlock] at h1; omega
  have hrow7' := hrow7.ext hw8.ext fun q h1 h2 => by have := h7l q h1; omega
  have s8 := hw8.ext.size
  have s7 := hE7.size
  have hB3 := hw8.has _ (.tail _ (.head _))
  have hB2 := hw8.has _ (.tail _ (.tail _ (.head _)))
  have hB1 := hw8.has _ (.tail _ (.tail _ (.tail _ (.head _))))
  refine GL.append1 rfl rfl hrow7' (hw8.has _ (.head _)) rfl rfl (by simp [Value.oneCell']) (by simp) rfl rfl fun v9 w9 hrow9 hapd9 => ?_
  have hE9 : Ext No W w9 := hX8.then hapd9.ext fun q h1 h2 => by have := h7l q h2; omega
  have hv9 : v9.oneCell' = true := hrow9.one
  have hrow10 := hrow8.ext hapd9.ext fun q h1 h2 => by have := h7l q h2; simp [Value.ownBlock] at h1; omega
  refine GL.of_JL (C := Cls w9 (fun k => k = b3 ∨ k = b2 ∨ k = b1) [_, _, _]) (Cls.start3 (hB3.keep hapd9.ext fun h => by have := h7l _ h; simp only at this; omega) (hB2.keep hapd9.ext fun h => by have := h7l _ h; simp only at this; omega) (hB1.keep hapd9.ext fun h => by have := h7l _ h; simp only at this; omega) b23 b13 b12) ?_
  repeat (first | (apply JL.y; (first | (apply Y_move; rfl) | (apply Y_assign; rfl) | (apply Y_fieldAddr; rfl; rfl) | (apply Y_add; rfl; rfl; omega)); rfl) | refine J.region ?_ | refine JL.nil ?_ | (apply JL.store; (apply St_1 0; rfl; rfl; exact inferInstance; (first | rfl | assumption); rfl; rfl; (first | (focus (simp only [List.set_cons_zero, List.set_cons_succ]; done)) | (simp only [List.set_cons_zero, List.set_cons_succ]; rfl)))) | refine J.inBlock ?_)
  apply J.inLoop1
  repeat (first | (apply JL.y; (first | (apply Y_move; rfl) | (apply Y_fieldAddr; rfl; rfl) | (apply Y_load1 0; rfl; rfl; rfl; exact inferInstance) | (apply Y_loadW 0; rfl; rfl; exact inferInstance; rfl) | (apply Y_lss; rfl; rfl)); rfl) | refine J.seq ?_ | refine J.region ?_ | refine JL.nil ?_ | (apply JL.store; (apply St_W 1; rfl; rfl; rfl; exact inferInstance; rfl; rfl; (first | (focus (simp [Value.oneCell']; done)) | (simp [Value.oneCell']; assumption) | (simp [Value.oneCell']; exact ⟨by assumption, by assumption⟩)); (first | (focus (simp only [List.set_cons_zero, List.set_cons_succ]; done)) | (simp only [List.set_cons_zero, List.set_cons_succ]; rfl)))) | refine J.cond_f rfl ?_ | (apply J.exit; rfl))
  refine J.ret1 Try.func120 Try.results120 (RV.W 1 rfl rfl rfl) fun w' hw' => ⟨_, rfl, hE9.then hw'.ext fun q h1 h2 => by omega, _, _, g, cap, _, rfl, rfl, rfl, hv9, hrow10.ext hw'.ext fun q h1 h2 => by simp [Value.ownBlock] at h1; omega⟩
end Go.Proofs.Ytmkpbbdocndfbaa
