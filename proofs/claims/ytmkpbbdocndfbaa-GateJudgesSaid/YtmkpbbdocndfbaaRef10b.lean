/- The document's lanes: Of, Room, Take, Sweep. -/
import Derived.Test.YtmkpbbdocndfbaaRef10
namespace Go.Proofs.Ytmkpbbdocndfbaa
open Go.RowKit Go.Proofs
attribute [local irreducible] Yl JL J G GL GA GQ DR

theorem map_snoc {zs : Zs} {i : Nat} {z : List Value × Msg} (h : zs[i]? = some z) : (zs.map (·.2))[i]? = some z.2 := by simp [h]
set_option maxHeartbeats 1000000 in
/-- empennageref10.Of. -/
theorem rOf_spec {w : World} {ok : Nat → Prop} {v : Value} {zs : Zs} {ln pl : Int} (h : Rd 5 MsgC w ok v zs) (hn : zs.length ≤ 1000000) (q : Int) :
    Calls Try.prog 45 #[.agg (rlC ln pl v).toArray, .int .i64 q] w fun e w' => ∃ r, e = .returned r ∧ Ext No w w' ∧ ∃ zs', Lk ok w w' r zs' ∧ zs'.map (·.2) = (zs.map (·.2)).filter (fun m => m.lane == q) := by
  obtain ⟨A, c, rfl, hc, hm⟩ := h.slice
  refine Calls.of_G2 Try.func45 rfl Try.ntmps45 rfl ?_
  refine J.at (C := Cls w No []) ?_ (Cls.start _ _)
  unfold rlC
  repeat (first | (apply JL.y; (apply Y_assign; rfl); rfl) | refine J.seq ?_ | refine J.region ?_ | refine JL.nil ?_ | (apply JL.box; rfl; rfl; rfl; intro _) | refine J.block ?_)
  rename_i b2
  refine J.intro fun wl hwl => ?_
  have hb2 := hwl.has _ (.head _)
  have b2l : w.heap.size ≤ b2 := hwl.fresh fun _ h => h.elim
  refine G.loop (Inv := fun mm e wl => ∃ (i : Nat) (vo : Value) (zo : Zs), i ≤ zs.length ∧ mm = zs.length - i ∧ Ext No w wl ∧ BlkIn wl ⟨b2, [.int .i64 ln, .int .i64 pl, .slice A zs.length c], 28⟩ ∧ Lk ok w wl vo zo ∧ zo.map (·.2) = ((zs.map (·.2)).take i).filter (fun m => m.lane == q) ∧ vo.ownBlock ≠ some b2 ∧ e = [(1, .int .i64 q), (2, .pointer (some ⟨b2, 0, none⟩)), (5, vo), (6, .int .i64 i)])
    _ _ ⟨0, _, [], Nat.zero_le _, rfl, hwl.ext, hb2, Lk.nil _ _ _, by simp, by simp [Value.ownBlock], rfl⟩ ⟨rfl, rfl, rfl, rfl, trivial⟩ ?_
  rintro mm e w1 ⟨i, vo, zo, hi, rfl, hE, hB, hL, hz, hvb, rfl⟩ ih
  have hzl : zo.length ≤ 1000000 := by have := congrArg List.length hz; simp at this; have := List.length_filter_le (fun m : Msg => m.lane == q) ((zs.map (·.2)).take i); simp at this; omega
  have hst : ∀ {H' : List Blk} {w' : World}, Cls w1 (fun k => k = b2) H' w' → (⟨b2, [.int .i64 ln, .int .i64 pl, .slice A zs.length c], 28⟩ : Blk) ∈ H' → Ext No w1 w' := fun h h1 => h.still fun k hk => ⟨_, h1, hk.symm, hB⟩
  refine J.at (C := Cls w1 (fun k => k = b2) [_]) ?_ (Cls.start1 hB)
  repeat (first | (apply JL.y; (first | (apply Y_move; rfl) | (apply Y_fieldAddr; rfl; rfl) | (apply Y_load1 0; rfl; rfl; rfl; exact inferInstance) | (apply Y_len; rfl) | (apply Y_lss; rfl; rfl)); rfl) | refine J.seq ?_ | refine J.region ?_ | refine JL.nil ?_)
  refine J.cond_d rfl (fun hlt => ?_) (fun hlt => ?_)
  · have hil : i < zs.length := by omega
    obtain ⟨z, hx⟩ : ∃ z, zs[i]? = some z := ⟨_, List.getElem?_eq_getElem hil⟩
    obtain ⟨ad, _, e1⟩ := h.base (by omega) (by omega)
    cases e1
    have l1 := (h.lds (P := Try.prog) (t := 33) hx).ext0 hE
    have hel := h.el z (List.mem_of_getElem? hx)
    obtain ⟨ws, hws, hwr, hl8, ho⟩ := MsgC.open_ hel
    have l2 := (h.ldsF (P := Try.prog) (t := 3) hx (j := 1) (v := .int .i64 z.2.lane) (by rw [hws]; rfl)).ext0 hE
    unfold maxLen at hm
    repeat (first | (apply JL.y; (first | (apply Y_move; rfl) | (apply Y_fieldAddr; rfl; rfl) | (apply Y_load1 0; rfl; rfl; rfl; exact inferInstance)); rfl) | refine J.seq ?_ | refine J.region ?_ | refine J.skip ?_ | refine J.block ?_)
    apply JL.y (Y_indexAddr rfl rfl (by omega)) rfl
    apply JL.y (Y_fieldAddrG rfl) rfl
    apply JL.y (Y_loadP rfl fun w' hw' => l2.at_ (hst hw' (by simp)) fun _ _ _ h => h) rfl
    repeat (first | (apply JL.y; (first | (apply Y_move; rfl) | (apply Y_eql; rfl; rfl)); rfl) | refine JL.nil ?_)
    refine J.cond_d rfl (fun hq => ?_) (fun hq => ?_)
    · repeat (first | (apply JL.y; (first | (apply Y_move; rfl) | (apply Y_fieldAddr; rfl; rfl) | (apply Y_load1 0; rfl; rfl; rfl; exact inferInstance)); rfl) | refine J.region ?_)
      apply JL.y (Y_indexAddr rfl rfl (by omega)) rfl
      apply JL.y (Y_loadP rfl fun w' hw' => l1.at_ (hst hw' (by simp)) fun _ _ _ h => h) rfl
      rw [hws]
      unfold msgC
      repeat (first | (apply JL.bslice1; rfl; rfl; rfl; rfl; rfl; rfl; intro _))
      refine JL.intro fun w2 hw2 => ?_
      have hE12 := hst hw2 (by simp)
      have hL2 := hL.ext0 hE12
      have hx2 : Foot (fun w => MsgC w (msgC ws z.2) z.2) w2 (fun k => ok k ∧ k < w.heap.size) := ((MsgC.mk hwr hl8).old (hE.trans hE12) fun _ _ _ h => h)
      have hb2' := hw2.has _ (.tail _ (.head _))
      refine GL.append1 rfl rfl hL2.own.row (hw2.has _ (.head _)) rfl rfl (msgC_one ho) (by simp; omega) rfl rfl fun v' w3 hrow hapd => ?_
      have hL3 := hL2.app hrow hapd hx2 (hE.trans hE12).size
      have hb3 := hb2'.keep hapd.ext hvb
      have hne : v'.ownBlock ≠ some b2 := fun hv => by
        rcases hapd.at_ with h1 | h1 <;> rw [h1] at hv
        · exact hvb hv
        · injection hv with hv; have := hb2'.lt; simp only at this; omega
      have hE3 : Ext No w w3 := (hE.trans hE12).then hapd.ext fun k hk hv => by have := hL2.new k hv; omega
      refine GL.of_JL (C := Cls w3 (fun k => k = b2) [_]) (Cls.start1 hb3) ?_
      repeat (first | (apply JL.y; (first | (apply Y_move; rfl) | (apply Y_assign; rfl) | (apply Y_add; rfl; rfl; omega)); rfl) | refine J.region ?_ | refine JL.nil ?_ | refine J.inBlock ?_)
      refine J.intro fun w4 hw4 => ?_
      have hE34 : Ext No w3 w4 := hw4.still fun k hk => ⟨_, .head _, hk.symm, hb3⟩
      refine ih (zs.length - (i + 1)) (by omega) _ _ w4 ?_ ⟨i + 1, v', _, hil, rfl, hE3.trans hE34, hw4.has _ (.head _), hL3.ext0 hE34, ?_, hne, rfl⟩
      · exact ⟨rfl, rfl, rfl, rfl, trivial⟩
      · rw [take_snoc (map_snoc hx), List.filter_append, List.map_append, hz]; simp [hq]
    · repeat (first | (apply JL.y; (first | (apply Y_move; rfl) | (apply Y_assign; rfl) | (apply Y_add; rfl; rfl; omega)); rfl) | refine J.region ?_ | refine JL.nil ?_ | refine J.skip ?_ | refine J.inBlock ?_)
      refine J.intro fun w4 hw4 => ?_
      have hE34 := hst hw4 (by simp)
      refine ih (zs.length - (i + 1)) (by omega) _ _ w4 ?_ ⟨i + 1, vo, zo, hil, rfl, hE.trans hE34, hw4.has _ (.head _), hL.ext0 hE34, ?_, hvb, rfl⟩
      · exact ⟨rfl, rfl, rfl, rfl, trivial⟩
      · rw [take_snoc (map_snoc hx), List.filter_append, hz]; simp [hq]
  · repeat (first | (apply JL.y; (first | (apply Y_move; rfl) | (apply Y_assign; rfl)); rfl) | refine J.seq ?_ | refine J.region ?_ | refine JL.nil ?_ | (apply J.exit; rfl))
    refine J.ret1 Try.func45 Try.results45 (RV.tm rfl) fun w' hw' => ?_
    have hE34 := hst hw' (by simp)
    exact ⟨_, rfl, hE.trans hE34, zo, hL.ext0 hE34, by rw [hz, List.take_of_length_le (by simp; omega)]⟩
/-- empennageref10.Room. -/
theorem rRoom_spec {w : World} {ok : Nat → Prop} {v : Value} {zs : Zs} {ln pl : Int} (h : Rd 5 MsgC w ok v zs) (hn : zs.length ≤ 1000000) (hp : 0 ≤ pl ∧ pl ≤ 1000000) (q : Int) :
    Calls Try.prog 43 #[.agg (rlC ln pl v).toArray, .int .i64 q] w fun e w' => e = .returned (.int .i64 (room ln pl (zs.map (·.2)) q)) ∧ Ext No w w' := by
  have hone : v.oneCell' = true := by obtain ⟨A, c, rfl, _⟩ := h.slice; rfl
  have hfl := List.length_filter_le (fun m : Msg => m.lane == q) (zs.map (·.2))
  simp only [List.length_map] at hfl
  refine Calls.of_G2 Try.func43 rfl Try.ntmps43 rfl ?_
  refine J.at (C := Cls w No []) ?_ (Cls.start _ _)
  unfold rlC
  repeat (first | (apply JL.y; (first | (apply Y_move; rfl) | (apply Y_assign; rfl) | (apply Y_lss; rfl; rfl)); rfl) | refine J.seq ?_ | refine J.region ?_ | refine JL.nil ?_ | (apply JL.box; rfl; rfl; rfl; intro _))
  by_cases h0 : q < 0
  · rw [decide_eq_true h0]
    repeat (first | (apply JL.y; (apply Y_pick_t; rfl; rfl); rfl) | refine JL.nil ?_ | (apply JL.guard_no; rfl; rfl; rfl; rfl; rfl))
    apply J.cond_t rfl
    repeat (first | (apply JL.y; (apply Y_assign; rfl); rfl) | refine J.seq ?_ | refine J.region ?_ | refine JL.nil ?_)
    exact J.ret1 Try.func43 Try.results43 (RV.tm rfl) fun w' hw' => ⟨ret_eq (by rw [room, if_neg (by omega)]), hw'.ext⟩
  rw [decide_eq_false h0]
  repeat (first | (apply JL.y; (first | (apply Y_move; rfl) | (apply Y_fieldAddr; rfl; rfl) | (apply Y_load1 0; rfl; rfl; rfl; exact inferInstance) | (apply Y_geq; rfl; rfl) | (apply Y_pick_f; rfl; rfl)); rfl) | refine JL.nil ?_ | (apply JL.guard_yes; rfl; rfl; rfl))
  refine J.cond_d rfl (fun h1 => ?_) (fun h1 => ?_)
  · repeat (first | (apply JL.y; (apply Y_assign; rfl); rfl) | refine J.seq ?_ | refine J.region ?_ | refine JL.nil ?_)
    exact J.ret1 Try.func43 Try.results43 (RV.tm rfl) fun w' hw' => ⟨ret_eq (by rw [room, if_neg (by omega)]), hw'.ext⟩
  repeat (first | refine J.seq ?_ | refine J.skip ?_)
  refine J.draw (S := Cls _ _ _) [] #[false, false, false, false, false, false, false, false] rfl rfl (fun w hw => hw.drew) (fun w hS => ?_)
  (apply DR.pure 0 #[true, false, false, false, false, false, false, false]; rfl; kernel_rfl; (apply Y_fieldAddr; rfl; rfl); rfl)
  (apply DR.take 1 #[true, true, false, false, false, false, false, false]; rfl; kernel_rfl; (first | (apply Y_load1 0; rfl; rfl; rfl; exact inferInstance) | (apply Y_load1 1; rfl; rfl; rfl; exact inferInstance) | (apply Y_load1 2; rfl; rfl; rfl; exact inferInstance) | (apply Y_load1 3; rfl; rfl; rfl; exact inferInstance) | (apply Y_loadW 0; rfl; rfl; exact inferInstance; rfl) | (apply Y_loadW 1; rfl; rfl; exact inferInstance; rfl) | (apply Y_loadW 2; rfl; rfl; exact inferInstance; rfl) | (apply Y_loadW 3; rfl; rfl; exact inferInstance; rfl)); rfl; exact hS)
  (apply DR.take 2 #[true, true, true, false, false, false, false, false]; rfl; kernel_rfl; (first | (apply Y_load1 0; rfl; rfl; rfl; exact inferInstance) | (apply Y_load1 1; rfl; rfl; rfl; exact inferInstance) | (apply Y_load1 2; rfl; rfl; rfl; exact inferInstance) | (apply Y_load1 3; rfl; rfl; rfl; exact inferInstance) | (apply Y_loadW 0; rfl; rfl; exact inferInstance; rfl) | (apply Y_loadW 1; rfl; rfl; exact inferInstance; rfl) | (apply Y_loadW 2; rfl; rfl; exact inferInstance; rfl) | (apply Y_loadW 3; rfl; rfl; exact inferInstance; rfl)); rfl; exact hS)
  (apply DR.pure 3 #[true, true, true, true, false, false, false, false]; rfl; kernel_rfl; (apply Y_move; rfl); rfl)
  refine DR.call 4 #[true, true, true, true, true, false, false, false] (fun v w' => Ext No _ w' ∧ ∃ A c, v = .slice A ((zs.map (·.2)).filter (fun m => m.lane == q)).length c) rfl (by kernel_rfl) rfl rfl rfl ((rOf_spec (ln := ln) (pl := pl) (h.ext0 hS.ext) hn q).mono fun en w' he => ?_) (fun v w' hv => hS.ext0 hv.1) (fun v w' ⟨hE, A, c, hv⟩ hS => ?_)
  · obtain ⟨r, h1, hE, zs', hR, hz⟩ := he
    obtain ⟨A, c, hr, _⟩ := hR.own.slice
    exact ⟨r, h1, hE, A, c, by rw [hr, ← hz]; simp⟩
  subst hv
  (apply DR.pure 5 #[true, true, true, true, true, true, false, false]; rfl; kernel_rfl; (apply Y_len; rfl); rfl)
  (apply DR.pure 6 #[true, true, true, true, true, true, true, false]; rfl; kernel_rfl; (apply Y_sub; rfl; rfl; omega); rfl)
  (apply DR.pure 7 #[true, true, true, true, true, true, true, true]; rfl; kernel_rfl; (apply Y_assign; rfl); rfl)
  refine DR.done (by kernel_rfl) ?_
  refine J.at (C := Cls _ _ _) ?_ hS
  skip
  exact J.ret1 Try.func43 Try.results43 (RV.tm rfl) fun w' hw' => ⟨ret_eq (by rw [room, if_pos (by omega)]; rfl), hw'.ext⟩
end Go.Proofs.Ytmkpbbdocndfbaa
