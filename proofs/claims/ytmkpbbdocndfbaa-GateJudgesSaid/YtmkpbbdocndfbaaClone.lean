/- Copies of messages. -/
import Derived.Test.YtmkpbbdocndfbaaMsgs
namespace Go.Proofs.Ytmkpbbdocndfbaa
open Go.RowKit Go.Proofs
attribute [local irreducible] Yl JL J G GL GA GQ DR

/-- lane.Same. -/
theorem laneSame_spec {w : World} {ok1 ok2 : Nat → Prop} {v1 v2 : Value} {xs ys : List (List Value × Msg)} (h1 : Rd 5 MsgC w ok1 v1 xs) (h2 : Rd 5 MsgC w ok2 v2 ys) :
    Calls Try.prog 47 #[v1, v2] w fun e w' => e = .returned (.bool (decide (xs.map (·.2) = ys.map (·.2)))) ∧ Ext No w w' := by
  refine Calls.of_G2 Try.func47 rfl Try.ntmps47 rfl ?_
  refine J.at (C := Cls w No []) ?_ (Cls.start _ _)
  repeat (first | (apply JL.y; (first | (apply Y_move; rfl) | (apply Y_assign; rfl)); rfl) | refine J.seq ?_ | refine J.region ?_ | refine JL.nil ?_ | (apply JL.callq; rfl; rfl; (intro wc hwc; first | exact equalFunc_spec (h1.ext0 hwc.ext) (h2.ext0 hwc.ext))))
  exact J.ret1 Try.func47 Try.results47 (RV.tm rfl) fun w' hw => ⟨rfl, hw.ext⟩

/-- lane.Clone. -/
theorem clone_spec {w : World} {ok : Nat → Prop} {v : Value} {m : Msg} (h : Foot (fun w => RMsg w v m) w ok) :
    Calls Try.prog 46 #[v] w fun e w' => ∃ r, e = .returned r ∧ ∃ ws, r = .agg (msgC ws m).toArray ∧ Ext No w w' ∧ Foot (fun w => RInts w ws m.words) w' (fun k => w.heap.size ≤ k) ∧ ws.oneCell' = true ∧ m.words.length ≤ 8 ∧ Row w' 3 1 ws (ints m.words) ∧ (∀ k, ws.ownBlock = some k → w.heap.size ≤ k) := by
  obtain ⟨ws, rfl, hw, hl, ho⟩ := RMsg.open_ h
  refine Calls.of_G1 Try.func46 rfl Try.ntmps46 rfl ?_
  refine J.at (C := Cls w No []) ?_ (Cls.start _ _)
  unfold msgC
  repeat (first | (apply JL.y; (first | (apply Y_fieldAddr; rfl; rfl) | (apply Y_load1 1; rfl; rfl; rfl; exact inferInstance)); rfl) | refine J.seq ?_ | refine J.region ?_ | refine JL.nil ?_ | (apply JL.box; rfl; rfl; rfl; intro _) | (apply JL.alloc; rfl; rfl; intro _))
  refine JL.call _ rfl rfl (fun w1 hw1 => cloneInts_spec (hw.ext0 hw1.ext) (by omega)) fun w1 r w2 hw1 ⟨hE, hF, ho2, hrow, hnew⟩ => ?_
  have hc := hw1.ext0 hE
  refine GL.of_JL (C := Cls w2 (Bs _) _) hc.rebase ?_
  repeat (first | (apply JL.y; (first | (apply Y_fieldAddr; rfl; rfl) | (apply Y_loadW 1; rfl; rfl; exact inferInstance; rfl)); rfl) | refine J.seq ?_ | refine J.region ?_ | refine JL.nil ?_ | (apply JL.store; (first | (apply St_1 1; rfl; rfl; exact inferInstance; (first | rfl | assumption); rfl; rfl; (first | (focus (simp only [List.set_cons_zero, List.set_cons_succ]; done)) | (simp only [List.set_cons_zero, List.set_cons_succ]; rfl))) | (apply St_W 0; rfl; rfl; rfl; exact inferInstance; rfl; rfl; (first | (focus (simp [Value.oneCell']; done)) | (simp [Value.oneCell']; assumption) | (simp [Value.oneCell']; exact ⟨by assumption, by assumption⟩)); (first | (focus (simp only [List.set_cons_zero]; done)) | (simp only [List.set_cons_zero]; rfl))))))
  refine J.ret1 Try.func46 Try.results46 (RV.W 0 rfl rfl rfl) fun w3 hw3 => ⟨_, rfl, r, rfl, hc.via hw3.ext, ?_, ho2, hl, hrow.ext hw3.ext fun k hk hb => by have := hw1.bs_lt hb; have := hnew k hk; omega, fun k hk => Nat.le_trans hw1.ext.size (hnew k hk)⟩
  refine (hF.ext hw3.ext fun k hk hle hb => ?_).mono fun k hk hle => Nat.le_trans hw1.ext.size hle
  have := hw1.bs_lt hb
  omega
/-- A message whose words lie in a row of their own. -/
def MsgN (w : World) (cs : List Value) (m : Msg) : Prop := ∃ ws, cs = msgC ws m ∧ Row w 3 1 ws (ints m.words) ∧ m.words.length ≤ 8
theorem MsgN.c {w : World} {cs : List Value} {m : Msg} (h : MsgN w cs m) : MsgC w cs m := by
  obtain ⟨ws, h1, h2, h3⟩ := h
  exact ⟨ws, h1, h2.rrow, h3⟩
theorem New.imp {α : Type} {e sz : Nat} {el el' : World → List Value → α → Prop} {w w' : World} {v : Value} {zs : List (List Value × α)} (h : New e sz el w w' v zs) (hi : ∀ w c x, el w c x → el' w c x) : New e sz el' w w' v zs :=
  ⟨⟨h.own.row, fun z hz => (h.own.el z hz).imp fun _ hw => hi _ _ _ hw, h.own.apart⟩, h.new⟩
/-- lane.clones. -/
theorem clonesN_spec {w : World} {ok : Nat → Prop} {v : Value} {xs : List (List Value × Msg)} (h : Rd 5 MsgC w ok v xs) (hn : xs.length ≤ 1000000) :
    Calls Try.prog 110 #[v] w fun e w' => ∃ r, e = .returned r ∧ Ext No w w' ∧ ∃ zs, New 33 5 MsgN w w' r zs ∧ zs.map (·.2) = xs.map (·.2) := by
  obtain ⟨A, c, rfl, hc, hm⟩ := h.slice
  refine Calls.of_G1 Try.func110 rfl Try.ntmps110 rfl ?_
  refine J.at (C := Cls w No []) ?_ (Cls.start _ _)
  repeat (first | (apply JL.y; (first | (apply Y_move; rfl) | (apply Y_assign; rfl) | (apply Y_len; rfl)); rfl) | refine J.seq ?_ | refine J.region ?_ | refine JL.nil ?_ | refine J.block ?_)
  refine J.intro fun wl hwl => G.loop (Inv := fun m e wl => ∃ (i : Nat) (out : Value) (zs : List (List Value × Msg)), i ≤ xs.length ∧ m = xs.length - i ∧ Ext No w wl ∧ New 33 5 MsgN w wl out zs ∧ zs.map (·.2) = (xs.map (·.2)).take i ∧ e = [(3, out), (6, .slice A xs.length c), (7, .int .i64 xs.length), (8, .int .i64 i)])
    _ _ ⟨0, _, [], Nat.zero_le _, rfl, hwl.ext, New.nil _ _ _ _ _, by simp, rfl⟩ ⟨rfl, rfl, rfl, rfl, trivial⟩ ?_
  rintro m e w1 ⟨i, out, zs, hi, rfl, hE, hN, hz, rfl⟩ ih
  refine J.at (C := Cls w1 No []) ?_ (Cls.start _ _)
  repeat (first | (apply JL.y; (apply Y_lss; rfl; rfl); rfl) | refine J.seq ?_ | refine J.region ?_ | refine JL.nil ?_)
  refine J.cond_d rfl (fun hlt => ?_) (fun hlt => ?_)
  · have hlt' : i < xs.length := by omega
    have hx : xs[i]? = some xs[i] := List.getElem?_eq_getElem hlt'
    obtain ⟨ad, _, e1⟩ := h.base (by omega) (by omega)
    cases e1
    have l1 := (h.lds (P := Try.prog) (t := 33) hx).ext0 hE
    have g1 := ((h.el _ (List.mem_of_getElem? hx)).imp fun w hw => hw.msg).ext0 hE
    obtain ⟨ws, hws, _, hl8, ho⟩ := MsgC.open_ (h.el _ (List.mem_of_getElem? hx))
    rw [hws] at l1 g1
    unfold maxLen at hm
    repeat (first | refine J.seq ?_ | refine J.region ?_ | refine J.skip ?_ | refine J.block ?_)
    apply JL.y (Y_indexAddr rfl rfl (by omega)) rfl
    apply JL.y (Y_loadP rfl fun w hw => l1.at_ hw.ext fun _ _ _ h => h) rfl
    unfold msgC
    repeat (first | (apply JL.y; (first | (apply Y_move; rfl) | (apply Y_loadW 0; rfl; rfl; exact inferInstance; rfl)); rfl) | refine J.region ?_ | refine JL.nil ?_ | (apply JL.alloc; rfl; rfl; intro _) | (apply JL.store; (apply St_W 0; rfl; rfl; rfl; exact inferInstance; rfl; rfl; (first | (focus (simp [Value.oneCell']; done)) | (simp [Value.oneCell']; assumption) | (simp [Value.oneCell']; exact ⟨by assumption, by assumption⟩)); (first | (focus (simp only [List.set_cons_zero]; done)) | (simp only [List.set_cons_zero]; rfl)))))
    refine JL.call _ rfl rfl (fun w2 hw2 => clone_spec (g1.ext0 hw2.ext)) fun w2 r w3 hw2 ⟨ws', hr, hE3, _, ho2, _, hrw, hrn⟩ => ?_
    subst hr
    have hc3 := hw2.ext0 hE3
    refine GL.of_JL (C := Cls w3 (Bs _) _) hc3.rebase ?_
    unfold msgC
    repeat (first | (apply JL.bslice1; rfl; rfl; rfl; rfl; rfl; rfl; intro _))
    refine JL.intro fun w4 hw4 => ?_
    have hE4 : Ext No w1 w4 := hc3.via hw4.ext
    have hzl : zs.length ≤ 1000000 := by have := congrArg List.length hz; simp at this; omega
    refine GL.append1 rfl rfl (hN.own.row.ext0 hE4) (hw4.has _ (.head _)) rfl rfl (msgC_one ho2) (by simp; omega) rfl rfl fun v' w5 hrow hapd => ?_
    have hx4 : Foot (fun w => MsgN w (msgC ws' xs[i].2) xs[i].2) w4 (fun k => w1.heap.size ≤ k) :=
      ((hrw.foot.imp fun w hw => (⟨ws', rfl, hw, hl8⟩ : MsgN w (msgC ws' xs[i].2) xs[i].2)).ext hw4.ext fun k hk hle hb => by have := hw2.bs_lt hb; have := hrn k hle; omega).mono fun k _ hle => Nat.le_trans hw2.ext.size (hrn k hle)
    have hN5 := hN.append hE4 hrow hapd hx4 hE.size
    have hE5 : Ext No w w5 := (hE.trans hE4).then hapd.ext fun k hk hv => by have := hN.new k hv; omega
    refine GL.of_JL (C := Cls w5 No []) (Cls.start _ _) ?_
    repeat (first | (apply JL.y; (first | (apply Y_move; rfl) | (apply Y_assign; rfl) | (apply Y_add; rfl; rfl; omega)); rfl) | refine J.region ?_ | refine JL.nil ?_ | refine J.inBlock ?_)
    refine J.intro fun w6 hw6 => ih (xs.length - (i + 1)) (by omega) _ _ w6 ?_ ⟨i + 1, v', _, hlt', rfl, hE5.trans hw6.ext, hN5.ext0 hw6.ext, ?_, rfl⟩
    · exact ⟨rfl, rfl, rfl, rfl, trivial⟩
    · have hx' : (xs.map (·.2))[i]? = some xs[i].2 := by simp [hx]
      rw [take_snoc hx', List.map_append, hz]; rfl
  · repeat (first | (apply JL.y; (first | (apply Y_move; rfl) | (apply Y_assign; rfl)); rfl) | refine J.seq ?_ | refine J.region ?_ | refine JL.nil ?_ | (apply J.exit; rfl))
    exact J.ret1 Try.func110 Try.results110 (RV.tm rfl) fun w' hw => ⟨_, rfl, hE.trans hw.ext, zs, hN.ext0 hw.ext, by rw [hz, map_take_eq _ rfl (by omega)]⟩
theorem clones_spec {w : World} {ok : Nat → Prop} {v : Value} {xs : List (List Value × Msg)} (h : Rd 5 MsgC w ok v xs) (hn : xs.length ≤ 1000000) :
    Calls Try.prog 110 #[v] w fun e w' => ∃ r, e = .returned r ∧ Ext No w w' ∧ ∃ zs, New 33 5 MsgC w w' r zs ∧ zs.map (·.2) = xs.map (·.2) :=
  (clonesN_spec h hn).mono fun _ _ ⟨r, h1, h2, zs, h3, h4⟩ => ⟨r, h1, h2, zs, h3.imp fun _ _ _ h => h.c, h4⟩
end Go.Proofs.Ytmkpbbdocndfbaa
