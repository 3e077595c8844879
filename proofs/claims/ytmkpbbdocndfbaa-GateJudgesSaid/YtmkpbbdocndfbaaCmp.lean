/- The order of messages: the key functions, cmp.Compare, the closure that lane.sorted makes. -/
import Derived.Test.YtmkpbbdocndfbaaClone
import Derived.Test.YtmkpbbdocndfbaaSortP
namespace Go.Proofs.Ytmkpbbdocndfbaa
open Go.RowKit Go.Proofs
attribute [local irreducible] Yl JL J G GL GA GQ DR

def cmpI (a b : Int) : Int := if a < b then -1 else if b < a then 1 else 0
theorem isNaN_spec (a : Int) (w : World) : Calls Try.prog 156 #[.int .i64 a] w fun e w' => e = .returned (.bool false) ∧ Ext No w w' := by
  refine Calls.of_G1 Try.func156 rfl Try.ntmps156 rfl ?_
  refine J.at (C := Cls w No []) ?_ (Cls.start _ _)
  repeat (first | (apply JL.y; (first | (apply Y_move; rfl) | (apply Y_assign; rfl) | (apply Y_neq; rfl; rfl)); rfl) | refine J.seq ?_ | refine J.region ?_ | refine JL.nil ?_)
  exact J.ret1 Try.func156 Try.results156 (RV.tm rfl) fun w' hw => ⟨ret_bool (by simp), hw.ext⟩
theorem compare_spec (a b : Int) (w : World) : Calls Try.prog 138 #[.int .i64 a, .int .i64 b] w fun e w' => e = .returned (.int .i64 (cmpI a b)) ∧ Ext No w w' := by
  refine Calls.of_G2 Try.func138 rfl Try.ntmps138 rfl ?_
  refine J.at (C := Cls w No []) ?_ (Cls.start _ _)
  repeat (first | (apply JL.y; (first | (apply Y_move; rfl) | (apply Y_assign; rfl)); rfl) | refine J.seq ?_ | refine J.region ?_ | refine JL.nil ?_ | (apply JL.callq; rfl; rfl; (intro wc hwc; first | exact isNaN_spec _ _)))
  apply J.cond_f rfl
  repeat (first | (apply JL.y; (apply Y_move; rfl); rfl) | refine J.seq ?_ | refine J.region ?_ | refine JL.nil ?_ | refine J.skip ?_)
  apply J.cond_f rfl
  repeat (first | (apply JL.y; (first | (apply Y_move; rfl) | (apply Y_lss; rfl; rfl)); rfl) | refine J.seq ?_ | refine J.region ?_ | refine JL.nil ?_ | refine J.skip ?_)
  refine J.cond_d rfl (fun h => ?_) (fun h => ?_)
  · repeat (first | (apply JL.y; (apply Y_assign; rfl); rfl) | refine J.seq ?_ | refine J.region ?_ | refine JL.nil ?_)
    exact J.ret1 Try.func138 Try.results138 (RV.tm rfl) fun w' hw => ⟨ret_eq (by rw [cmpI, if_pos h]), hw.ext⟩
  repeat (first | (apply JL.y; (first | (apply Y_move; rfl) | (apply Y_gtr; rfl; rfl)); rfl) | refine J.seq ?_ | refine J.region ?_ | refine JL.nil ?_ | refine J.skip ?_)
  refine J.cond_d rfl (fun h2 => ?_) (fun h2 => ?_)
  · repeat (first | (apply JL.y; (apply Y_assign; rfl); rfl) | refine J.seq ?_ | refine J.region ?_ | refine JL.nil ?_)
    exact J.ret1 Try.func138 Try.results138 (RV.tm rfl) fun w' hw => ⟨ret_eq (by rw [cmpI, if_neg h, if_pos h2]), hw.ext⟩
  repeat (first | (apply JL.y; (apply Y_assign; rfl); rfl) | refine J.seq ?_ | refine J.region ?_ | refine JL.nil ?_ | refine J.skip ?_)
  exact J.ret1 Try.func138 Try.results138 (RV.tm rfl) fun w' hw => ⟨ret_eq (by rw [cmpI, if_neg h, if_neg h2]), hw.ext⟩
/-- A function that tells a message's lane. -/
structure KeyFn (kf : Nat) : Prop where
  ci : CI Try.prog kf
  run : ∀ (w : World) (ws : Value) (m : Msg), Calls Try.prog kf #[.agg (msgC ws m).toArray] w fun e w' => e = .returned (.int .i64 m.lane) ∧ Ext No w w'
theorem keyAll : KeyFn 112 := ⟨inferInstance, fun w ws m => by
  refine Calls.of_G1 Try.func112 rfl Try.ntmps112 rfl ?_
  refine J.at (C := Cls w No []) ?_ (Cls.start _ _)
  unfold msgC
  repeat (first | (apply JL.y; (first | (apply Y_assign; rfl) | (apply Y_fieldAddr; rfl; rfl) | (apply Y_load1 0; rfl; rfl; rfl; exact inferInstance)); rfl) | refine J.seq ?_ | refine J.region ?_ | refine JL.nil ?_ | (apply JL.box; rfl; rfl; rfl; intro _))
  exact J.ret1 Try.func112 Try.results112 (RV.tm rfl) fun w' hw => ⟨rfl, hw.ext⟩⟩
theorem keySplit : KeyFn 143 := ⟨inferInstance, fun w ws m => by
  refine Calls.of_G1 Try.func143 rfl Try.ntmps143 rfl ?_
  refine J.at (C := Cls w No []) ?_ (Cls.start _ _)
  unfold msgC
  repeat (first | (apply JL.y; (first | (apply Y_assign; rfl) | (apply Y_fieldAddr; rfl; rfl) | (apply Y_load1 0; rfl; rfl; rfl; exact inferInstance)); rfl) | refine J.seq ?_ | refine J.region ?_ | refine JL.nil ?_ | (apply JL.box; rfl; rfl; rfl; intro _))
  exact J.ret1 Try.func143 Try.results143 (RV.tm rfl) fun w' hw => ⟨rfl, hw.ext⟩⟩
/-- The variable that the comparing closure looks into. -/
def KeyAt (kb : Nat) (w : World) : Prop := ∃ kf, KeyFn kf ∧ BlkIn w ⟨kb, [.func (.func kf) #[] #[]], 143⟩
/-- The comparing closure. -/
theorem cmp_spec {w : World} {kb : Nat} (hk : KeyAt kb w) (p q : Value × Msg) (_ : p.1.oneCell' = true) (_ : q.1.oneCell' = true) :
    Calls Try.prog 146 #[.agg (msgC p.1 p.2).toArray, .agg (msgC q.1 q.2).toArray, .pointer (some ⟨kb, 0, none⟩)] w fun e w' => e = .returned (.int .i64 (cmpI p.2.lane q.2.lane)) ∧ Ext No w w' := by
  obtain ⟨kf, hkf, hb⟩ := hk
  have hci := hkf.ci
  refine Calls.of_G3 Try.func146 rfl Try.ntmps146 rfl ?_
  refine J.at (C := Cls w No []) ?_ (Cls.start _ _)
  have hl : Foot (Lds Try.prog 143 ⟨kb, 0, none⟩ (.func (.func kf) #[] #[])) w (fun k => k = kb) := fun w' hw' => Lds.one ((hw' kb rfl hb.lt).trans hb) rfl
  unfold msgC
  repeat (first | (apply JL.y; (apply Y_assign; rfl); rfl) | refine J.seq ?_ | refine J.region ?_ | refine JL.nil ?_ | (apply JL.box; rfl; rfl; rfl; intro _))
  refine J.draw (S := Cls _ _ _) [] #[false, false, false, false, false, false, false, false] rfl rfl (fun w hw => hw.drew) (fun w hS => ?_)
  (apply DR.take 0 #[true, false, false, false, false, false, false, false]; rfl; kernel_rfl; exact Y_loadP rfl fun w hw => hl.at_ hw.ext fun _ _ _ h => h; rfl; exact hS)
  (apply DR.take 1 #[true, true, false, false, false, false, false, false]; rfl; kernel_rfl; (first | (apply Y_load1 0; rfl; rfl; rfl; exact inferInstance) | (apply Y_load1 1; rfl; rfl; rfl; exact inferInstance) | (apply Y_load1 2; rfl; rfl; rfl; exact inferInstance) | (apply Y_load1 3; rfl; rfl; rfl; exact inferInstance) | (apply Y_loadW 0; rfl; rfl; exact inferInstance; rfl) | (apply Y_loadW 1; rfl; rfl; exact inferInstance; rfl) | (apply Y_loadW 2; rfl; rfl; exact inferInstance; rfl) | (apply Y_loadW 3; rfl; rfl; exact inferInstance; rfl)); rfl; exact hS)
  (apply DR.take 3 #[true, true, false, true, false, false, false, false]; rfl; kernel_rfl; exact Y_loadP rfl fun w hw => hl.at_ hw.ext fun _ _ _ h => h; rfl; exact hS)
  (apply DR.take 4 #[true, true, false, true, true, false, false, false]; rfl; kernel_rfl; (first | (apply Y_load1 0; rfl; rfl; rfl; exact inferInstance) | (apply Y_load1 1; rfl; rfl; rfl; exact inferInstance) | (apply Y_load1 2; rfl; rfl; rfl; exact inferInstance) | (apply Y_load1 3; rfl; rfl; rfl; exact inferInstance) | (apply Y_loadW 0; rfl; rfl; exact inferInstance; rfl) | (apply Y_loadW 1; rfl; rfl; exact inferInstance; rfl) | (apply Y_loadW 2; rfl; rfl; exact inferInstance; rfl) | (apply Y_loadW 3; rfl; rfl; exact inferInstance; rfl)); rfl; exact hS)
  refine DR.callqC (cap := []) 2 #[true, true, true, true, true, false, false, false] rfl (by kernel_rfl) rfl rfl hci rfl rfl (hkf.run _ p.1 p.2) (fun w' hw' => hS.ext0 hw') (fun w hE hS => ?_)
  refine DR.callqC (cap := []) 5 #[true, true, true, true, true, true, false, false] rfl (by kernel_rfl) rfl rfl hci rfl rfl (hkf.run _ q.1 q.2) (fun w' hw' => hS.ext0 hw') (fun w hE hS => ?_)
  refine DR.callq 6 #[true, true, true, true, true, true, true, false] rfl (by kernel_rfl) rfl rfl rfl (compare_spec _ _ _) (fun w' hw' => hS.ext0 hw') (fun w hE hS => ?_)
  (apply DR.pure 7 #[true, true, true, true, true, true, true, true]; rfl; kernel_rfl; (apply Y_assign; rfl); rfl)
  refine DR.done (by kernel_rfl) ?_
  refine J.at (C := Cls _ _ _) ?_ hS
  skip
  exact J.ret1 Try.func146 Try.results146 (RV.tm rfl) fun w' hw => ⟨rfl, hw.ext⟩
end Go.Proofs.Ytmkpbbdocndfbaa
