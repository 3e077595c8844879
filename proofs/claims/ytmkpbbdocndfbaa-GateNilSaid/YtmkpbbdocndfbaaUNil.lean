/- A gate that is nil, lanes that are nil. -/
import Derived.Test.YtmkpbbdocndfbaaULaw12b
namespace Go.Proofs.Ytmkpbbdocndfbaa
open Go.RowKit Go.Proofs
attribute [local irreducible] Yl JL J G GL GA GQ DR DRA

theorem nlLen_spec (w : World) : Calls Try.prog 40 #[.pointer none] w fun e w' => e = .returned (.int .i64 0) ∧ Ext No w w' := by
  refine Calls.of_G1 Try.func40 rfl Try.ntmps40 rfl ?_
  refine J.at (C := Cls w No []) ?_ (Cls.start _ _)
  repeat (first | (apply JL.y; (first | (apply Y_move; rfl) | (apply Y_assign; rfl) | (apply Y_pnil_t; rfl)); rfl) | refine J.seq ?_ | refine J.region ?_ | refine JL.nil ?_ | refine J.cond_t rfl ?_)
  exact J.ret1 Try.func40 Try.results40 (RV.tm rfl) fun w' hw => ⟨rfl, hw.ext⟩
theorem nlAll_spec (w : World) : Calls Try.prog 41 #[.pointer none] w fun e w' => e = .returned (.slice none 0 0) ∧ Ext No w w' := by
  refine Calls.of_G1 Try.func41 rfl Try.ntmps41 rfl ?_
  refine J.at (C := Cls w No []) ?_ (Cls.start _ _)
  repeat (first | (apply JL.y; (first | (apply Y_move; rfl) | (apply Y_assign; rfl) | (apply Y_pnil_t; rfl)); rfl) | refine J.seq ?_ | refine J.region ?_ | refine JL.nil ?_ | refine J.cond_t rfl ?_)
  exact J.ret1 Try.func41 Try.results41 (RV.tm rfl) fun w' hw => ⟨rfl, hw.ext⟩
theorem nLanes_spec (w : World) : Calls Try.prog 127 #[.pointer none] w fun e w' => e = .returned (.pointer none) ∧ Ext No w w' := by
  refine Calls.of_G1 Try.func127 rfl Try.ntmps127 rfl ?_
  refine J.at (C := Cls w No []) ?_ (Cls.start _ _)
  repeat (first | (apply JL.y; (first | (apply Y_move; rfl) | (apply Y_assign; rfl) | (apply Y_pnil_t; rfl)); rfl) | refine J.seq ?_ | refine J.region ?_ | refine JL.nil ?_ | refine J.cond_t rfl ?_)
  exact J.ret1 Try.func127 Try.results127 (RV.tm rfl) fun w' hw => ⟨rfl, hw.ext⟩
theorem nLen_spec (w : World) : Calls Try.prog 56 #[.pointer none] w fun e w' => e = .returned (.int .i64 0) ∧ Ext No w w' := by
  refine Calls.of_G1 Try.func56 rfl Try.ntmps56 rfl ?_
  refine J.at (C := Cls w No []) ?_ (Cls.start _ _)
  repeat (first | (apply JL.y; (first | (apply Y_move; rfl) | (apply Y_assign; rfl)); rfl) | refine J.seq ?_ | refine J.region ?_ | refine JL.nil ?_ | (apply JL.callq; rfl; rfl; (intro wc hwc; first | exact nLanes_spec _ | exact nlLen_spec _)))
  exact J.ret1 Try.func56 Try.results56 (RV.tm rfl) fun w' hw => ⟨rfl, hw.ext⟩
theorem nSeq_spec (w : World) : Calls Try.prog 63 #[.pointer none] w fun e w' => e = .returned (.int .i64 0) ∧ Ext No w w' := by
  refine Calls.of_G1 Try.func63 rfl Try.ntmps63 rfl ?_
  refine J.at (C := Cls w No []) ?_ (Cls.start _ _)
  repeat (first | (apply JL.y; (first | (apply Y_move; rfl) | (apply Y_assign; rfl) | (apply Y_pnil_t; rfl)); rfl) | refine J.seq ?_ | refine J.region ?_ | refine JL.nil ?_ | refine J.cond_t rfl ?_)
  exact J.ret1 Try.func63 Try.results63 (RV.tm rfl) fun w' hw => ⟨rfl, hw.ext⟩
theorem nTokens_spec (R : Int) (w : World) : Calls Try.prog 59 #[.pointer none, .int .i64 R] w fun e w' => e = .returned (.int .i64 0) ∧ Ext No w w' := by
  refine Calls.of_G2 Try.func59 rfl Try.ntmps59 rfl ?_
  refine J.at (C := Cls w No []) ?_ (Cls.start _ _)
  repeat (first | (apply JL.y; (first | (apply Y_move; rfl) | (apply Y_assign; rfl) | (apply Y_pnil_t; rfl)); rfl) | refine J.seq ?_ | refine J.region ?_ | refine JL.nil ?_ | refine J.cond_t rfl ?_)
  exact J.ret1 Try.func59 Try.results59 (RV.tm rfl) fun w' hw => ⟨rfl, hw.ext⟩
theorem nAll_spec (w : World) : Calls Try.prog 58 #[.pointer none] w fun e w' => e = .returned (.slice none 0 0) ∧ Ext No w w' := by
  refine Calls.of_G1 Try.func58 rfl Try.ntmps58 rfl ?_
  refine J.at (C := Cls w No []) ?_ (Cls.start _ _)
  repeat (first | (apply JL.y; (first | (apply Y_move; rfl) | (apply Y_assign; rfl)); rfl) | refine J.seq ?_ | refine J.region ?_ | refine JL.nil ?_ | (apply JL.callq; rfl; rfl; (intro wc hwc; first | exact nLanes_spec _ | exact nlAll_spec _)))
  exact J.ret1 Try.func58 Try.results58 (RV.tm rfl) fun w' hw => ⟨rfl, hw.ext⟩
theorem nSplit_spec (f : Value) (w : World) : Calls Try.prog 105 #[.pointer none, f] w fun e w' => e = .returned (.slice none 0 0) ∧ Ext No w w' := by
  refine Calls.of_G2 Try.func105 rfl Try.ntmps105 rfl ?_
  refine J.at (C := Cls w No []) ?_ (Cls.start _ _)
  repeat (first | (apply JL.y; (first | (apply Y_move; rfl) | (apply Y_assign; rfl) | (apply Y_pnil_t; rfl)); rfl) | refine J.seq ?_ | refine J.region ?_ | refine JL.nil ?_ | refine J.cond_t rfl ?_)
  exact J.ret1 Try.func105 Try.results105 (RV.tm rfl) fun w' hw => ⟨rfl, hw.ext⟩
theorem nlFlush_spec (w : World) : Calls Try.prog 39 #[.pointer none] w fun e w' => e = .returned (.slice none 0 0) ∧ Ext No w w' := by
  refine Calls.of_G1 Try.func39 rfl Try.ntmps39 rfl ?_
  refine J.at (C := Cls w No []) ?_ (Cls.start _ _)
  repeat (first | (apply JL.y; (first | (apply Y_move; rfl) | (apply Y_assign; rfl)); rfl) | refine J.seq ?_ | refine J.region ?_ | refine JL.nil ?_ | (apply JL.callq; rfl; rfl; (intro wc hwc; first | exact nSplit_spec _ _)))
  exact J.ret1 Try.func39 Try.results39 (RV.tm rfl) fun w' hw => ⟨rfl, hw.ext⟩
theorem nlSweep_spec (n : Int) (w : World) : Calls Try.prog 38 #[.pointer none, .int .i64 n] w fun e w' => e = .returned (.slice none 0 0) ∧ Ext No w w' := by
  refine Calls.of_G2 Try.func38 rfl Try.ntmps38 rfl ?_
  refine J.at (C := Cls w No []) ?_ (Cls.start _ _)
  repeat (first | (apply JL.y; (first | (apply Y_move; rfl) | (apply Y_assign; rfl) | (apply Y_makeFunc; rfl)); rfl) | refine J.seq ?_ | refine J.region ?_ | refine JL.nil ?_ | (apply JL.callq; rfl; rfl; (intro wc hwc; first | exact nSplit_spec _ _)) | (apply JL.box; rfl; rfl; rfl; intro _))
  exact J.ret1 Try.func38 Try.results38 (RV.tm rfl) fun w' hw => ⟨rfl, hw.ext⟩
theorem nlTake_spec (w : World) : Calls Try.prog 34 #[.pointer none] w fun e w' => e = .returned (.tuple #[.agg (msgC (.slice none 0 0) zeroMsg).toArray, .bool false]) ∧ Ext No w w' := by
  refine Calls.of_G1 Try.func34 rfl Try.ntmps34 rfl ?_
  refine J.at (C := Cls w No []) ?_ (Cls.start _ _)
  repeat (first | (apply JL.y; (first | (apply Y_move; rfl) | (apply Y_assign; rfl) | (apply Y_len; rfl) | (apply Y_eql; rfl; rfl) | (apply Y_build; rfl; exact inferInstance) | (apply Y_makeFunc; rfl)); rfl) | refine J.seq ?_ | refine J.region ?_ | refine JL.nil ?_ | (apply JL.callq; rfl; rfl; (intro wc hwc; first | exact nSplit_spec _ _)) | (apply JL.alloc; rfl; rfl; intro _) | (apply JL.store; (first | (apply St_1 0; rfl; rfl; exact inferInstance; (first | rfl | assumption); rfl; rfl; (first | (focus (simp only [List.set_cons_zero]; done)) | (simp only [List.set_cons_zero]; rfl))) | (apply St_W 1; rfl; rfl; rfl; exact inferInstance; rfl; rfl; (first | (focus (simp [Value.oneCell']; done)) | (simp [Value.oneCell']; assumption) | (simp [Value.oneCell']; exact ⟨by assumption, by assumption⟩)); (first | (focus (simp only [List.set_cons_zero, List.set_cons_succ]; done)) | (simp only [List.set_cons_zero, List.set_cons_succ]; rfl))))) | refine J.cond_t rfl ?_)
  refine J.ret2 Try.func34 Try.results34 (RV.W 1 rfl rfl rfl) (RV.tm rfl) fun w' hw' => ⟨rfl, hw'.ext⟩
theorem nFlush_spec (w : World) : Calls Try.prog 66 #[.pointer none] w fun e w' => e = .returned (.slice none 0 0) ∧ Ext No w w' := by
  refine Calls.of_G1 Try.func66 rfl Try.ntmps66 rfl ?_
  refine J.at (C := Cls w No []) ?_ (Cls.start _ _)
  repeat (first | (apply JL.y; (first | (apply Y_move; rfl) | (apply Y_assign; rfl)); rfl) | refine J.seq ?_ | refine J.region ?_ | refine JL.nil ?_ | (apply JL.callq; rfl; rfl; (intro wc hwc; first | exact nLanes_spec _ | exact nlFlush_spec _)))
  exact J.ret1 Try.func66 Try.results66 (RV.tm rfl) fun w' hw => ⟨rfl, hw.ext⟩
theorem nSweep_spec (n : Int) (w : World) : Calls Try.prog 55 #[.pointer none, .int .i64 n] w fun e w' => e = .returned (.slice none 0 0) ∧ Ext No w w' := by
  refine Calls.of_G2 Try.func55 rfl Try.ntmps55 rfl ?_
  refine J.at (C := Cls w No []) ?_ (Cls.start _ _)
  repeat (first | (apply JL.y; (first | (apply Y_move; rfl) | (apply Y_assign; rfl)); rfl) | refine J.seq ?_ | refine J.region ?_ | refine JL.nil ?_ | (apply JL.callq; rfl; rfl; (intro wc hwc; first | exact nLanes_spec _ | exact nlSweep_spec _ _)))
  exact J.ret1 Try.func55 Try.results55 (RV.tm rfl) fun w' hw => ⟨rfl, hw.ext⟩
theorem nTake_spec (w : World) : Calls Try.prog 61 #[.pointer none] w fun e w' => e = .returned (.tuple #[.agg (msgC (.slice none 0 0) zeroMsg).toArray, .bool false]) ∧ Ext No w w' := by
  refine Calls.of_G1 Try.func61 rfl Try.ntmps61 rfl ?_
  refine J.at (C := Cls w No []) ?_ (Cls.start _ _)
  repeat (first | (apply JL.y; (first | (apply Y_move; rfl) | (apply Y_assign; rfl) | (apply Y_extract; rfl; rfl)); rfl) | refine J.seq ?_ | refine J.region ?_ | refine JL.nil ?_ | (apply JL.callq; rfl; rfl; (intro wc hwc; first | exact nLanes_spec _ | exact nlTake_spec _)) | (apply JL.alloc; rfl; rfl; intro _))
  unfold msgC
  repeat (first | (apply JL.y; (apply Y_assign; rfl); rfl) | refine JL.nil ?_ | (apply JL.store; (apply St_W 0; rfl; rfl; rfl; exact inferInstance; rfl; rfl; (first | (focus (simp [Value.oneCell']; done)) | (simp [Value.oneCell']; assumption) | (simp [Value.oneCell']; exact ⟨by assumption, by assumption⟩)); (first | (focus (simp only [List.set_cons_zero]; done)) | (simp only [List.set_cons_zero]; rfl)))))
  refine J.ret2 Try.func61 Try.results61 (RV.W 0 rfl rfl rfl) (RV.tm rfl) fun w' hw' => ⟨rfl, hw'.ext⟩
/-- Offer to no gate. -/
theorem nOffer_spec (a b n r : Int) (v : Value) (w : World) : Calls Try.prog 54 #[.pointer none, .int .i64 a, .int .i64 b, v, .int .i64 n, .int .i64 r] w fun e w' => e = .returned (.tuple #[.agg (msgC (.slice none 0 0) zeroMsg).toArray, .int .i64 4]) ∧ Ext No w w' := by
  refine Calls.of_G6 Try.func54 rfl Try.ntmps54 rfl ?_
  refine J.at (C := Cls w No []) ?_ (Cls.start _ _)
  repeat (first | (apply JL.y; (first | (apply Y_move; rfl) | (apply Y_assign; rfl) | (apply Y_pnil_t; rfl) | (apply Y_build; rfl; exact inferInstance)); rfl) | refine J.seq ?_ | refine J.region ?_ | refine JL.nil ?_ | (apply JL.alloc; rfl; rfl; intro _) | (apply JL.store; (apply St_W 0; rfl; rfl; rfl; exact inferInstance; rfl; rfl; (first | (focus (simp [Value.oneCell']; done)) | (simp [Value.oneCell']; assumption) | (simp [Value.oneCell']; exact ⟨by assumption, by assumption⟩)); (first | (focus (simp only [List.set_cons_zero]; done)) | (simp only [List.set_cons_zero]; rfl)))) | refine J.cond_t rfl ?_)
  refine J.ret2 Try.func54 Try.results54 (RV.W 0 rfl rfl rfl) (RV.tm rfl) fun w' hw' => ⟨rfl, hw'.ext⟩
end Go.Proofs.Ytmkpbbdocndfbaa
