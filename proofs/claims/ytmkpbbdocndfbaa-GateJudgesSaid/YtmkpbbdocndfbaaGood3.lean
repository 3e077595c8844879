/- Channels that are right, made of any, as the laws ask for them. -/
import Derived.Test.YtmkpbbdocndfbaaGood2
namespace Go.Proofs.Ytmkpbbdocndfbaa
open Go.RowKit Go.Proofs
attribute [local irreducible] Yl JL J G GL GA GQ DR DRA

set_option maxHeartbeats 1000000 in
theorem good12_spec (k : Ch) (w : World) : Calls Try.prog 49 #[.agg (chC k).toArray] w fun e w' => e = .returned (.agg (chC (goodC k)).toArray) ∧ Ext No w w' := by
  refine Calls.of_G1 Try.func49 rfl Try.ntmps49 rfl ?_
  refine J.at (C := Cls w No []) ?_ (Cls.start _ _)
  unfold chC
  repeat (first | (apply JL.y; (first | (apply Y_fieldAddr; rfl; rfl) | (apply Y_loadW 1; rfl; rfl; exact inferInstance; rfl) | (apply Y_build; rfl; exact inferInstance)); rfl) | refine J.seq ?_ | refine J.region ?_ | refine JL.nil ?_ | (apply JL.box; rfl; rfl; rfl; intro _) | (apply JL.alloc; rfl; rfl; intro _) | (apply JL.bslice1; rfl; rfl; rfl; rfl; rfl; rfl; intro _) | (apply JL.store; (apply St_1 1; rfl; rfl; exact inferInstance; (first | rfl | assumption); rfl; rfl; (first | (focus (simp only [List.set_cons_zero, List.set_cons_succ]; done)) | (simp only [List.set_cons_zero, List.set_cons_succ]; rfl)))))
  rename_i b1 b2 bs
  refine JL.call _ rfl rfl (fun w1 hw1 => good_spec (k := { k with kind := 1 }) rfl (hw1.has _ (.head _))) fun w1 r w2 hw1 ⟨hE2, f, wv, g, c, av, hr, hf, hwv, hav, hrow⟩ => ?_
  subst hr
  have hC2 := hw1.ext0 hE2
  have hX2 := hC2.ext
  have hB2 := hC2.has _ (.tail _ (.head _))
  have b2l : w.heap.size ≤ b2 := (hw1.mine _ (.tail _ (.head _))).resolve_left id
  have l1 := Row.foot hrow
  obtain ⟨g', cap', _, hgv, _⟩ := hrow.block (by simp)
  refine GL.of_JL (C := Cls w2 No []) (Cls.start _ _) ?_
  repeat (first | (apply JL.alloc; rfl; rfl; intro _))
  (apply JL.store; (apply St_W 0; rfl; rfl; rfl; exact inferInstance; rfl; rfl; (intro u hu; simp only [List.mem_cons, List.not_mem_nil, or_false] at hu; rcases hu with rfl | rfl | rfl | rfl | rfl <;> first | assumption | rfl); rfl))
  repeat (first | (apply JL.y; (first | (apply Y_fieldAddr; rfl; rfl) | (apply Y_load1 0; rfl; rfl; rfl; exact inferInstance)); rfl) | refine J.seq ?_ | refine J.region ?_ | refine JL.nil ?_)
  apply JL.y (Y_indexAddr rfl rfl (by decide)) rfl
  rw [add_lit]
  refine JL.intro fun w3 hw3 => ?_
  have hB2 := hB2.ext0 hw3.ext
  have hrow3 := hrow.ext0 hw3.ext
  have b2g : b2 ≠ g := fun h => by
    subst h
    obtain ⟨g2, cap2, cur, hv2, hb2, _, _, h5, h6⟩ := hrow3.block (by simp)
    simp only [Value.slice.injEq, Option.some.injEq, Addr.mk.injEq, List.length_cons, List.length_nil] at hv2
    obtain ⟨⟨rfl, _⟩, _, rfl⟩ := hv2
    have h7 := hB2.symm.trans hb2
    simp only [Option.some.injEq, Obj.cells.injEq] at h7
    have h8 := congrArg List.head? h6
    rw [← h7.1] at h8
    simp [chC, goodC] at h8
  have lk : Lds Try.prog 61 ⟨g, 0, none⟩ (.agg (chC (goodC k)).toArray) w3 := by
    obtain ⟨g2, cap2, cur, hv2, hb2, _, _, h5, h6⟩ := hrow3.block (by simp)
    simp only [Value.slice.injEq, Option.some.injEq, Addr.mk.injEq, List.length_cons, List.length_nil] at hv2
    obtain ⟨⟨rfl, _⟩, _, rfl⟩ := hv2
    exact Lds.many hb2 (show (cur.toList.drop 0).take 11 = chC (goodC k) from h6.trans (List.append_nil _)) (by simp [chC])
  refine GL.of_JL (C := fun w' => w' = w3) rfl ?_
  apply JL.y (Y_loadP rfl fun w' hw' => by rw [hw']; simpa using lk) rfl
  refine JL.imp (C' := Cls w3 (fun q => q = b2) [_]) ?_ fun w' hw' => by rw [hw']; exact Cls.start1 hB2
  unfold chC
  repeat (first | refine JL.nil ?_ | (apply JL.store; (apply St_W 0; rfl; rfl; rfl; exact inferInstance; rfl; rfl; (first | (focus (simp [Value.oneCell']; done)) | (simp [Value.oneCell']; assumption) | (simp [Value.oneCell']; exact ⟨by assumption, by assumption⟩)); (first | (focus (simp only [List.set_cons_zero]; done)) | (simp only [List.set_cons_zero]; rfl)))))
  refine J.ret1 Try.func49 Try.results49 (RV.W 0 rfl rfl rfl) fun w' hw' => ⟨rfl, (hX2.trans hw3.ext).then hw'.ext fun q h1 h2 => by omega⟩
set_option maxHeartbeats 1000000 in
theorem good19_spec (k : Ch) (w : World) : Calls Try.prog 85 #[.agg (chC k).toArray] w fun e w' => e = .returned (.agg (chC (goodC k)).toArray) ∧ Ext No w w' := by
  refine Calls.of_G1 Try.func85 rfl Try.ntmps85 rfl ?_
  refine J.at (C := Cls w No []) ?_ (Cls.start _ _)
  unfold chC
  repeat (first | (apply JL.y; (first | (apply Y_fieldAddr; rfl; rfl) | (apply Y_loadW 1; rfl; rfl; exact inferInstance; rfl) | (apply Y_build; rfl; exact inferInstance)); rfl) | refine J.seq ?_ | refine J.region ?_ | refine JL.nil ?_ | (apply JL.box; rfl; rfl; rfl; intro _) | (apply JL.alloc; rfl; rfl; intro _) | (apply JL.bslice1; rfl; rfl; rfl; rfl; rfl; rfl; intro _) | (apply JL.store; (apply St_1 1; rfl; rfl; exact inferInstance; (first | rfl | assumption); rfl; rfl; (first | (focus (simp only [List.set_cons_zero, List.set_cons_succ]; done)) | (simp only [List.set_cons_zero, List.set_cons_succ]; rfl)))))
  rename_i b1 b2 bs
  refine JL.call _ rfl rfl (fun w1 hw1 => good_spec (k := { k with kind := 1 }) rfl (hw1.has _ (.head _))) fun w1 r w2 hw1 ⟨hE2, f, wv, g, c, av, hr, hf, hwv, hav, hrow⟩ => ?_
  subst hr
  have hC2 := hw1.ext0 hE2
  have hX2 := hC2.ext
  have hB2 := hC2.has _ (.tail _ (.head _))
  have b2l : w.heap.size ≤ b2 := (hw1.mine _ (.tail _ (.head _))).resolve_left id
  have l1 := Row.foot hrow
  obtain ⟨g', cap', _, hgv, _⟩ := hrow.block (by simp)
  refine GL.of_JL (C := Cls w2 No []) (Cls.start _ _) ?_
  repeat (first | (apply JL.alloc; rfl; rfl; intro _))
  (apply JL.store; (apply St_W 0; rfl; rfl; rfl; exact inferInstance; rfl; rfl; (intro u hu; simp only [List.mem_cons, List.not_mem_nil, or_false] at hu; rcases hu with rfl | rfl | rfl | rfl | rfl <;> first | assumption | rfl); rfl))
  repeat (first | (apply JL.y; (first | (apply Y_fieldAddr; rfl; rfl) | (apply Y_load1 0; rfl; rfl; rfl; exact inferInstance)); rfl) | refine J.seq ?_ | refine J.region ?_ | refine JL.nil ?_)
  apply JL.y (Y_indexAddr rfl rfl (by decide)) rfl
  rw [add_lit]
  refine JL.intro fun w3 hw3 => ?_
  have hB2 := hB2.ext0 hw3.ext
  have hrow3 := hrow.ext0 hw3.ext
  have b2g : b2 ≠ g := fun h => by
    subst h
    obtain ⟨g2, cap2, cur, hv2, hb2, _, _, h5, h6⟩ := hrow3.block (by simp)
    simp only [Value.slice.injEq, Option.some.injEq, Addr.mk.injEq, List.length_cons, List.length_nil] at hv2
    obtain ⟨⟨rfl, _⟩, _, rfl⟩ := hv2
    have h7 := hB2.symm.trans hb2
    simp only [Option.some.injEq, Obj.cells.injEq] at h7
    have h8 := congrArg List.head? h6
    rw [← h7.1] at h8
    simp [chC, goodC] at h8
  have lk : Lds Try.prog 61 ⟨g, 0, none⟩ (.agg (chC (goodC k)).toArray) w3 := by
    obtain ⟨g2, cap2, cur, hv2, hb2, _, _, h5, h6⟩ := hrow3.block (by simp)
    simp only [Value.slice.injEq, Option.some.injEq, Addr.mk.injEq, List.length_cons, List.length_nil] at hv2
    obtain ⟨⟨rfl, _⟩, _, rfl⟩ := hv2
    exact Lds.many hb2 (show (cur.toList.drop 0).take 11 = chC (goodC k) from h6.trans (List.append_nil _)) (by simp [chC])
  refine GL.of_JL (C := fun w' => w' = w3) rfl ?_
  apply JL.y (Y_loadP rfl fun w' hw' => by rw [hw']; simpa using lk) rfl
  refine JL.imp (C' := Cls w3 (fun q => q = b2) [_]) ?_ fun w' hw' => by rw [hw']; exact Cls.start1 hB2
  unfold chC
  repeat (first | refine JL.nil ?_ | (apply JL.store; (apply St_W 0; rfl; rfl; rfl; exact inferInstance; rfl; rfl; (first | (focus (simp [Value.oneCell']; done)) | (simp [Value.oneCell']; assumption) | (simp [Value.oneCell']; exact ⟨by assumption, by assumption⟩)); (first | (focus (simp only [List.set_cons_zero]; done)) | (simp only [List.set_cons_zero]; rfl)))))
  refine J.ret1 Try.func85 Try.results85 (RV.W 0 rfl rfl rfl) fun w' hw' => ⟨rfl, (hX2.trans hw3.ext).then hw'.ext fun q h1 h2 => by omega⟩
end Go.Proofs.Ytmkpbbdocndfbaa
