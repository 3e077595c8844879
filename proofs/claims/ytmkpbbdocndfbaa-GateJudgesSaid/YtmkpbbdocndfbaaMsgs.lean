/- Lists of messages: comparisons, copies. -/
import Derived.Test.YtmkpbbdocndfbaaMsg
namespace Go.Proofs.Ytmkpbbdocndfbaa
open Go.RowKit Go.Proofs
attribute [local irreducible] Yl JL J G GL GA GQ DR

theorem map_take_eq {α β : Type} (f : α → β) {l : List α} {n i : Nat} (hl : l.length = n) (hi : n ≤ i) : (l.map f).take i = l.map f := List.take_of_length_le (by simp; omega)

/-- empennageref10.Same. -/
theorem same_spec {w : World} {ok1 ok2 : Nat → Prop} {v1 v2 : Value} {xs ys : List (List Value × Msg)} (h1 : Rd 5 MsgC w ok1 v1 xs) (h2 : Rd 5 MsgC w ok2 v2 ys) :
    Calls Try.prog 37 #[v1, v2] w fun e w' => e = .returned (.bool (decide (xs.map (·.2) = ys.map (·.2)))) ∧ Ext No w w' := by
  obtain ⟨A1, c1, rfl, hc1, hm1⟩ := h1.slice
  obtain ⟨A2, c2, rfl, hc2, hm2⟩ := h2.slice
  refine Calls.of_G2 Try.func37 rfl Try.ntmps37 rfl ?_
  refine J.at (C := Cls w No []) ?_ (Cls.start _ _)
  repeat (first | (apply JL.y; (first | (apply Y_move; rfl) | (apply Y_assign; rfl) | (apply Y_len; rfl) | (apply Y_neq; rfl; rfl)); rfl) | refine J.seq ?_ | refine J.region ?_ | refine JL.nil ?_)
  refine J.cond_d rfl (fun hl => ?_) (fun hl => ?_)
  · repeat (first | (apply JL.y; (apply Y_assign; rfl); rfl) | refine J.seq ?_ | refine J.region ?_ | refine JL.nil ?_)
    exact J.ret1 Try.func37 Try.results37 (RV.tm rfl) fun w' hw => ⟨ret_bool (decide_eq_false fun h => hl (by have := congrArg List.length h; simp at this; omega)).symm, hw.ext⟩
  have hlen : ys.length = xs.length := by omega
  repeat (first | (apply JL.y; (apply Y_assign; rfl); rfl) | refine J.seq ?_ | refine J.region ?_ | refine JL.nil ?_ | refine J.skip ?_ | refine J.block ?_)
  refine J.intro fun wl hwl => G.loop (Inv := fun m e wl => ∃ i : Nat, i ≤ xs.length ∧ m = xs.length - i ∧ (xs.map (·.2)).take i = (ys.map (·.2)).take i ∧ Ext No w wl ∧ e = [(0, .slice A1 xs.length c1), (1, .slice A2 ys.length c2), (5, .int .i64 i)])
    _ _ ⟨0, Nat.zero_le _, rfl, by simp, hwl.ext, rfl⟩ ⟨rfl, rfl, rfl, trivial⟩ ?_
  rintro m e w1 ⟨i, hi, rfl, htk, hE, rfl⟩ ih
  refine J.at (C := Cls w1 No []) ?_ (Cls.start _ _)
  repeat (first | (apply JL.y; (first | (apply Y_move; rfl) | (apply Y_len; rfl) | (apply Y_lss; rfl; rfl)); rfl) | refine J.seq ?_ | refine J.region ?_ | refine JL.nil ?_)
  refine J.cond_d rfl (fun hlt => ?_) (fun hlt => ?_)
  · have hlt' : i < xs.length := by omega
    have hx : xs[i]? = some xs[i] := List.getElem?_eq_getElem hlt'
    have hy : ys[i]? = some ys[i] := List.getElem?_eq_getElem (by omega)
    obtain ⟨ad1, _, e1⟩ := h1.base (by omega) (by omega)
    obtain ⟨ad2, _, e2⟩ := h2.base (by omega) (by omega)
    cases e1
    cases e2
    have l1 := (h1.lds (P := Try.prog) (t := 33) hx).ext0 hE
    have l2 := (h2.lds (P := Try.prog) (t := 33) hy).ext0 hE
    have g1 := ((h1.el _ (List.mem_of_getElem? hx)).imp fun w hw => hw.msg).ext0 hE
    have g2 := ((h2.el _ (List.mem_of_getElem? hy)).imp fun w hw => hw.msg).ext0 hE
    unfold maxLen at hm1 hm2
    repeat (first | refine J.seq ?_ | refine J.skip ?_ | refine J.block ?_)
    refine J.draw (S := Cls _ _ _) [] #[false, false, false, false, false, false, false, false, false, false] rfl rfl (fun w hw => hw.drew) (fun w hS => ?_)
    (apply DR.pure 0 #[true, false, false, false, false, false, false, false, false, false]; rfl; kernel_rfl; (apply Y_move; rfl); rfl)
    (apply DR.pure 1 #[true, true, false, false, false, false, false, false, false, false]; rfl; kernel_rfl; (apply Y_move; rfl); rfl)
    (apply DR.pure 2 #[true, true, true, false, false, false, false, false, false, false]; rfl; kernel_rfl; (apply Y_indexAddr; rfl; rfl; omega); rfl)
    (apply DR.take 3 #[true, true, true, true, false, false, false, false, false, false]; rfl; kernel_rfl; exact Y_loadP rfl fun w hw => l1.at_ hw.ext fun _ _ _ h => h; rfl; exact hS)
    (apply DR.pure 4 #[true, true, true, true, true, false, false, false, false, false]; rfl; kernel_rfl; (apply Y_move; rfl); rfl)
    (apply DR.pure 5 #[true, true, true, true, true, true, false, false, false, false]; rfl; kernel_rfl; (apply Y_move; rfl); rfl)
    (apply DR.pure 6 #[true, true, true, true, true, true, true, false, false, false]; rfl; kernel_rfl; (apply Y_indexAddr; rfl; rfl; omega); rfl)
    (apply DR.take 7 #[true, true, true, true, true, true, true, true, false, false]; rfl; kernel_rfl; exact Y_loadP rfl fun w hw => l2.at_ hw.ext fun _ _ _ h => h; rfl; exact hS)
    refine DR.callq 8 #[true, true, true, true, true, true, true, true, true, false] rfl (by kernel_rfl) rfl rfl rfl (one_spec (g1.ext0 hS.ext) (g2.ext0 hS.ext)) (fun w' hw' => hS.ext0 hw') (fun w hE2 hS => ?_)
    (apply DR.pure 9 #[true, true, true, true, true, true, true, true, true, true]; rfl; kernel_rfl; (apply Y_assign; rfl); rfl)
    refine DR.done (by kernel_rfl) ?_
    refine J.at (C := Cls _ _ _) ?_ hS
    repeat (first | (apply JL.y; (first | (apply Y_move; rfl) | (apply Y_not_d; rfl)); rfl) | refine J.seq ?_ | refine J.region ?_ | refine JL.nil ?_)
    refine J.cond_d rfl (fun hne => ?_) (fun hne => ?_)
    · repeat (first | (apply JL.y; (apply Y_assign; rfl); rfl) | refine J.seq ?_ | refine J.region ?_ | refine JL.nil ?_)
      exact J.ret1 Try.func37 Try.results37 (RV.tm rfl) fun w' hw => ⟨ret_bool (decide_eq_false fun h => hne (by have := congrArg (fun l => l[i]?) h; simpa [hx, hy] using this)).symm, hE.trans hw.ext⟩
    · repeat (first | (apply JL.y; (first | (apply Y_move; rfl) | (apply Y_assign; rfl) | (apply Y_add; rfl; rfl; omega)); rfl) | refine J.region ?_ | refine JL.nil ?_ | refine J.skip ?_ | refine J.inBlock ?_)
      refine J.intro fun w2 hw2 => ih (xs.length - (i + 1)) (by omega) _ _ w2 ?_ ⟨i + 1, hlt', rfl, ?_, hE.trans hw2.ext, rfl⟩
      · exact ⟨rfl, rfl, rfl, trivial⟩
      · have he : xs[i].2 = ys[i].2 := Decidable.of_not_not hne
        have hx' : (xs.map (·.2))[i]? = some xs[i].2 := by simp [hx]
        have hy' : (ys.map (·.2))[i]? = some ys[i].2 := by simp [hy]
        rw [take_snoc hx', take_snoc hy', htk, he]
  · repeat (first | (apply JL.y; (apply Y_assign; rfl); rfl) | refine J.seq ?_ | refine J.region ?_ | refine JL.nil ?_ | (apply J.exit; rfl))
    exact J.ret1 Try.func37 Try.results37 (RV.tm rfl) fun w' hw => ⟨ret_bool (decide_eq_true (by rwa [map_take_eq _ rfl (by omega), map_take_eq _ hlen (by omega)] at htk)).symm, hE.trans hw.ext⟩

/-- slices.EqualFunc by lane.Same's test. -/
theorem equalFunc_spec {w : World} {ok1 ok2 : Nat → Prop} {v1 v2 : Value} {xs ys : List (List Value × Msg)} (h1 : Rd 5 MsgC w ok1 v1 xs) (h2 : Rd 5 MsgC w ok2 v2 ys) :
    Calls Try.prog 116 #[v1, v2, .func (.func 117) #[] #[]] w fun e w' => e = .returned (.bool (decide (xs.map (·.2) = ys.map (·.2)))) ∧ Ext No w w' := by
  obtain ⟨A1, c1, rfl, hc1, hm1⟩ := h1.slice
  obtain ⟨A2, c2, rfl, hc2, hm2⟩ := h2.slice
  refine Calls.of_G3 Try.func116 rfl Try.ntmps116 rfl ?_
  refine J.at (C := Cls w No []) ?_ (Cls.start _ _)
  repeat (first | (apply JL.y; (first | (apply Y_move; rfl) | (apply Y_assign; rfl) | (apply Y_len; rfl) | (apply Y_neq; rfl; rfl)); rfl) | refine J.seq ?_ | refine J.region ?_ | refine JL.nil ?_)
  refine J.cond_d rfl (fun hl => ?_) (fun hl => ?_)
  · repeat (first | (apply JL.y; (apply Y_assign; rfl); rfl) | refine J.seq ?_ | refine J.region ?_ | refine JL.nil ?_)
    exact J.ret1 Try.func116 Try.results116 (RV.tm rfl) fun w' hw => ⟨ret_bool (decide_eq_false fun h => hl (by have := congrArg List.length h; simp at this; omega)).symm, hw.ext⟩
  have hlen : ys.length = xs.length := by omega
  repeat (first | (apply JL.y; (first | (apply Y_move; rfl) | (apply Y_len; rfl)); rfl) | refine J.seq ?_ | refine J.region ?_ | refine JL.nil ?_ | refine J.skip ?_ | refine J.block ?_)
  refine J.intro fun wl hwl => G.loop (Inv := fun m e wl => ∃ i : Nat, i ≤ xs.length ∧ m = xs.length - i ∧ (xs.map (·.2)).take i = (ys.map (·.2)).take i ∧ Ext No w wl ∧ e = [(1, .slice A2 ys.length c2), (2, .func (.func 117) #[] #[]), (15, .slice A1 xs.length c1), (16, .int .i64 xs.length), (17, .int .i64 i)])
    _ _ ⟨0, Nat.zero_le _, rfl, by simp, hwl.ext, rfl⟩ ⟨rfl, rfl, rfl, rfl, rfl, trivial⟩ ?_
  rintro m e w1 ⟨i, hi, rfl, htk, hE, rfl⟩ ih
  refine J.at (C := Cls w1 No []) ?_ (Cls.start _ _)
  repeat (first | (apply JL.y; (apply Y_lss; rfl; rfl); rfl) | refine J.seq ?_ | refine J.region ?_ | refine JL.nil ?_)
  refine J.cond_d rfl (fun hlt => ?_) (fun hlt => ?_)
  · have hlt' : i < xs.length := by omega
    have hx : xs[i]? = some xs[i] := List.getElem?_eq_getElem hlt'
    have hy : ys[i]? = some ys[i] := List.getElem?_eq_getElem (by omega)
    obtain ⟨ad1, _, e1⟩ := h1.base (by omega) (by omega)
    obtain ⟨ad2, _, e2⟩ := h2.base (by omega) (by omega)
    cases e1
    cases e2
    have l1 := (h1.lds (P := Try.prog) (t := 33) hx).ext0 hE
    have l2 := (h2.lds (P := Try.prog) (t := 33) hy).ext0 hE
    have g1 := ((h1.el _ (List.mem_of_getElem? hx)).imp fun w hw => hw.msg).ext0 hE
    have g2 := ((h2.el _ (List.mem_of_getElem? hy)).imp fun w hw => hw.msg).ext0 hE
    obtain ⟨ws1, hws1, _, _, ho1⟩ := MsgC.open_ (h1.el _ (List.mem_of_getElem? hx))
    obtain ⟨ws2, hws2, _, _, ho2⟩ := MsgC.open_ (h2.el _ (List.mem_of_getElem? hy))
    rw [hws1] at l1 g1
    rw [hws2] at l2 g2
    unfold maxLen at hm1 hm2
    repeat (first | (apply JL.y; (apply Y_move; rfl); rfl) | refine J.seq ?_ | refine J.region ?_ | refine J.skip ?_ | refine J.block ?_)
    apply JL.y (Y_indexAddr rfl rfl (by omega)) rfl
    apply JL.y (Y_loadP rfl fun w hw => l1.at_ hw.ext fun _ _ _ h => h) rfl
    unfold msgC
    repeat (first | (apply JL.y; (first | (apply Y_move; rfl) | (apply Y_assign; rfl)); rfl) | refine J.seq ?_ | refine J.region ?_ | refine JL.nil ?_ | (apply JL.alloc; rfl; rfl; intro _) | (apply JL.store; (apply St_W 0; rfl; rfl; rfl; exact inferInstance; rfl; rfl; (first | (focus (simp [Value.oneCell']; done)) | (simp [Value.oneCell']; assumption) | (simp [Value.oneCell']; exact ⟨by assumption, by assumption⟩)); (first | (focus (simp only [List.set_cons_zero]; done)) | (simp only [List.set_cons_zero]; rfl)))))
    apply JL.y (Y_indexAddr rfl rfl (by omega)) rfl
    apply JL.y (Y_loadP rfl fun w hw => l2.at_ hw.ext fun _ _ _ h => h) rfl
    unfold msgC
    repeat (first | (apply JL.y; (first | (apply Y_move; rfl) | (apply Y_loadW 0; rfl; rfl; exact inferInstance; rfl) | (apply Y_loadW 1; rfl; rfl; exact inferInstance; rfl) | (apply Y_not_d; rfl)); rfl) | refine J.seq ?_ | refine J.region ?_ | refine JL.nil ?_ | (apply JL.callqC; rfl; exact inferInstance; rfl; rfl; (intro wc hwc; first | exact sameC_spec (g1.ext0 hwc.ext) (g2.ext0 hwc.ext))) | (apply JL.alloc; rfl; rfl; intro _) | (apply JL.store; (apply St_W 0; rfl; rfl; rfl; exact inferInstance; rfl; rfl; (first | (focus (simp [Value.oneCell']; done)) | (simp [Value.oneCell']; assumption) | (simp [Value.oneCell']; exact ⟨by assumption, by assumption⟩)); (first | (focus (simp only [List.set_cons_zero]; done)) | (simp only [List.set_cons_zero]; rfl)))))
    refine J.cond_d rfl (fun hne => ?_) (fun hne => ?_)
    · repeat (first | (apply JL.y; (apply Y_assign; rfl); rfl) | refine J.seq ?_ | refine J.region ?_ | refine JL.nil ?_)
      exact J.ret1 Try.func116 Try.results116 (RV.tm rfl) fun w' hw => ⟨ret_bool (decide_eq_false fun h => hne (by have := congrArg (fun l => l[i]?) h; simpa [hx, hy] using this)).symm, hE.trans hw.ext⟩
    · repeat (first | (apply JL.y; (first | (apply Y_move; rfl) | (apply Y_add; rfl; rfl; omega)); rfl) | refine J.region ?_ | refine JL.nil ?_ | refine J.skip ?_ | refine J.inBlock ?_)
      refine J.intro fun w2 hw2 => ih (xs.length - (i + 1)) (by omega) _ _ w2 ?_ ⟨i + 1, hlt', rfl, ?_, hE.trans hw2.ext, rfl⟩
      · exact ⟨rfl, rfl, rfl, rfl, rfl, trivial⟩
      · have he : xs[i].2 = ys[i].2 := Decidable.of_not_not hne
        have hx' : (xs.map (·.2))[i]? = some xs[i].2 := by simp [hx]
        have hy' : (ys.map (·.2))[i]? = some ys[i].2 := by simp [hy]
        rw [take_snoc hx', take_snoc hy', htk, he]
  · repeat (first | (apply JL.y; (apply Y_assign; rfl); rfl) | refine J.seq ?_ | refine J.region ?_ | refine JL.nil ?_ | (apply J.exit; rfl))
    exact J.ret1 Try.func116 Try.results116 (RV.tm rfl) fun w' hw => ⟨ret_bool (decide_eq_true (by rwa [map_take_eq _ rfl (by omega), map_take_eq _ hlen (by omega)] at htk)).symm, hE.trans hw.ext⟩
end Go.Proofs.Ytmkpbbdocndfbaa
