/- The document's lanes: Sweep. -/
import Derived.Test.YtmkpbbdocndfbaaRef10c
namespace Go.Proofs.Ytmkpbbdocndfbaa
open Go.RowKit Go.Proofs
attribute [local irreducible] Yl JL J G GL GA GQ DR

theorem apd_ne {w w' : World} {v v' : Value} {b : Nat} (h : Apd w w' v v') (hb : b < w.heap.size) (hv : v.ownBlock ≠ some b) : v'.ownBlock ≠ some b := fun h' => by
  rcases h.at_ with h1 | h1 <;> rw [h1] at h'
  · exact hv h'
  · injection h' with h'; omega
theorem filt_le {zo zs : Zs} {i : Nat} {p : Msg → Bool} (h : zo.map (·.2) = ((zs.map (·.2)).take i).filter p) (hn : zs.length ≤ 1000000) : zo.length ≤ 1000000 := by
  have h1 := congrArg List.length h
  have := List.length_filter_le p ((zs.map (·.2)).take i)
  simp at h1 this; omega
set_option maxHeartbeats 1000000 in
/-- empennageref10.Sweep. -/
theorem rSweep_spec {w : World} {ok : Nat → Prop} {v : Value} {zs : Zs} {ln pl : Int} (h : Rd 5 MsgC w ok v zs) (hn : zs.length ≤ 1000000) (now : Int) :
    Calls Try.prog 36 #[.agg (rlC ln pl v).toArray, .int .i64 now] w fun e w' => ∃ r, e = .returned r ∧ Ext No w w' ∧ ∃ v' vo zr zo, r = .tuple #[.agg (rlC ln pl v').toArray, vo] ∧ Lk ok w w' v' zr ∧ Lk ok w w' vo zo ∧ zr.map (·.2) = (zs.map (·.2)).filter (fun m => !late now m) ∧ zo.map (·.2) = (zs.map (·.2)).filter (late now) := by
  obtain ⟨A, c, rfl, hc, hm⟩ := h.slice
  refine Calls.of_G2 Try.func36 rfl Try.ntmps36 rfl ?_
  refine J.at (C := Cls w No []) ?_ (Cls.start _ _)
  unfold rlC
  repeat (first | (apply JL.y; (apply Y_assign; rfl); rfl) | refine J.seq ?_ | refine J.region ?_ | refine JL.nil ?_ | (apply JL.box; rfl; rfl; rfl; intro _) | (apply JL.alloc; rfl; rfl; intro _) | refine J.block ?_)
  rename_i b2 b4
  refine J.intro fun wl hwl => ?_
  have hb4 := hwl.has _ (.head _)
  have hb2 := hwl.has _ (.tail _ (.head _))
  have b4l : w.heap.size ≤ b4 := hwl.fresh fun _ h => h.elim
  have b2l : w.heap.size ≤ b2 := (hwl.mine _ (.tail _ (.head _))).resolve_left id
  have b24 : b2 ≠ b4 := hwl.apart.1 _ (.head _)
  refine G.loop (Inv := fun mm e wl => ∃ (i : Nat) (vr vo : Value) (zr zo : Zs), i ≤ zs.length ∧ mm = zs.length - i ∧ Ext No w wl ∧ BlkIn wl ⟨b4, [.int .i64 0, .int .i64 0, .slice none 0 0], 28⟩ ∧ BlkIn wl ⟨b2, [.int .i64 ln, .int .i64 pl, .slice A zs.length c], 28⟩ ∧ Lk ok w wl vr zr ∧ Lk ok w wl vo zo ∧
      zr.map (·.2) = ((zs.map (·.2)).take i).filter (fun m => !late now m) ∧ zo.map (·.2) = ((zs.map (·.2)).take i).filter (late now) ∧ vr.ownBlock ≠ some b2 ∧ vr.ownBlock ≠ some b4 ∧ vo.ownBlock ≠ some b2 ∧ vo.ownBlock ≠ some b4 ∧ (∀ k, vr.ownBlock = some k → vo.ownBlock ≠ some k) ∧ e = [(1, .int .i64 now), (2, .pointer (some ⟨b2, 0, none⟩)), (4, .pointer (some ⟨b4, 0, none⟩)), (6, vr), (7, vo), (8, .int .i64 i)])
    _ _ ⟨0, _, _, [], [], Nat.zero_le _, rfl, hwl.ext, hb4, hb2, Lk.nil _ _ _, Lk.nil _ _ _, by simp, by simp, by simp [Value.ownBlock], by simp [Value.ownBlock], by simp [Value.ownBlock], by simp [Value.ownBlock], fun k hk => by simp [Value.ownBlock] at hk, rfl⟩ ⟨rfl, rfl, rfl, rfl, rfl, rfl, trivial⟩ ?_
  rintro mm e w1 ⟨i, vr, vo, zr, zo, hi, rfl, hE, hB4, hB2, hLr, hLo, hzr, hzo, hr2, hr4, ho2, ho4, hro, rfl⟩ ih
  have hst : ∀ {H' : List Blk} {w' : World}, Cls w1 (fun k => k = b4 ∨ k = b2) H' w' → (⟨b4, [.int .i64 0, .int .i64 0, .slice none 0 0], 28⟩ : Blk) ∈ H' → (⟨b2, [.int .i64 ln, .int .i64 pl, .slice A zs.length c], 28⟩ : Blk) ∈ H' → Ext No w1 w' := fun h h1 h2 => h.still fun k hk => hk.elim (fun hk => ⟨_, h1, hk.symm, hB4⟩) fun hk => ⟨_, h2, hk.symm, hB2⟩
  have hlr := filt_le hzr hn
  have hlo := filt_le hzo hn
  have hvr1 := hLr.own.row.one
  refine J.at (C := Cls w1 (fun k => k = b4 ∨ k = b2) [_, _]) ?_ (Cls.start2 hB4 hB2 b24)
  repeat (first | (apply JL.y; (first | (apply Y_move; rfl) | (apply Y_fieldAddr; rfl; rfl) | (apply Y_load1 1; rfl; rfl; rfl; exact inferInstance) | (apply Y_len; rfl) | (apply Y_lss; rfl; rfl)); rfl) | refine J.seq ?_ | refine J.region ?_ | refine JL.nil ?_)
  refine J.cond_d rfl (fun hlt => ?_) (fun hlt => ?_)
  · have hil : i < zs.length := by omega
    obtain ⟨z, hx⟩ : ∃ z, zs[i]? = some z := ⟨_, List.getElem?_eq_getElem hil⟩
    obtain ⟨ad, _, e1⟩ := h.base (by omega) (by omega)
    cases e1
    have l1 := (h.lds (P := Try.prog) (t := 33) hx).ext0 hE
    have hel := h.el z (List.mem_of_getElem? hx)
    obtain ⟨ws, hws, hwr, hl8, ho⟩ := MsgC.open_ hel
    unfold maxLen at hm
    have hsr := take_snoc (map_snoc hx)
    repeat (first | (apply JL.y; (first | (apply Y_move; rfl) | (apply Y_fieldAddr; rfl; rfl) | (apply Y_load1 1; rfl; rfl; rfl; exact inferInstance)); rfl) | refine J.seq ?_ | refine J.region ?_ | refine J.skip ?_ | refine J.block ?_)
    apply JL.y (Y_indexAddr rfl rfl (by omega)) rfl
    apply JL.y (Y_loadP rfl fun w' hw' => l1.at_ (hst hw' (by simp) (by simp)) fun _ _ _ h => h) rfl
    rw [hws]
    repeat (first | (apply JL.y; (first | (apply Y_move; rfl) | (apply Y_assign; rfl)); rfl) | refine J.seq ?_ | refine J.region ?_ | refine JL.nil ?_ | (apply JL.callq; rfl; rfl; (intro wc hwc; first | exact rLate_spec _ _ _ _)))
    cases hP : late now z.2 with
    | true =>
      refine J.cond_t rfl ?_
      repeat (first | (apply JL.y; (first | (apply Y_move; rfl) | (apply Y_fieldAddr; rfl; rfl) | (apply Y_load1 1; rfl; rfl; rfl; exact inferInstance)); rfl) | refine J.region ?_)
      apply JL.y (Y_indexAddr rfl rfl (by omega)) rfl
      apply JL.y (Y_loadP rfl fun w' hw' => l1.at_ (hst hw' (by simp) (by simp)) fun _ _ _ h => h) rfl
      rw [hws]
      repeat (first | (apply JL.bslice1; rfl; rfl; rfl; rfl; rfl; rfl; intro _))
      refine JL.intro fun w2 hw2 => ?_
      have hE12 := hst hw2 (by simp) (by simp)
      have hLo2 := hLo.ext0 hE12
      have hLr2 := hLr.ext0 hE12
      have hx2 : Foot (fun w => MsgC w (msgC ws z.2) z.2) w2 (fun k => ok k ∧ k < w.heap.size) := ((MsgC.mk hwr hl8).old (hE.trans hE12) fun _ _ _ h => h)
      have hb4' := hw2.has _ (.tail _ (.head _))
      have hb2' := hw2.has _ (.tail _ (.tail _ (.head _)))
      have u4 := hb4'.lt
      have u2 := hb2'.lt
      simp only at u4 u2
      refine GL.append1 rfl rfl hLo2.own.row (hw2.has _ (.head _)) rfl rfl (msgC_one ho) (by simp; omega) rfl rfl fun v' w3 hrow hapd => ?_
      have hLo3 := hLo2.app hrow hapd hx2 (hE.trans hE12).size
      have hLr3 := hLr2.ext hapd.ext fun k _ hv => ⟨hLo2.new k hv, fun h => hro k h hv⟩
      have hb43 := hb4'.keep hapd.ext ho4
      have hb23 := hb2'.keep hapd.ext ho2
      have hE3 : Ext No w w3 := (hE.trans hE12).then hapd.ext fun k hk hv => by have := hLo2.new k hv; omega
      refine GL.of_JL (C := Cls w3 (fun k => k = b4 ∨ k = b2) [_, _]) (Cls.start2 hb43 hb23 b24) ?_
      repeat (first | (apply JL.y; (first | (apply Y_move; rfl) | (apply Y_assign; rfl) | (apply Y_add; rfl; rfl; omega)); rfl) | refine J.region ?_ | refine JL.nil ?_ | refine J.inBlock ?_)
      refine J.intro fun w4 hw4 => ?_
      have hE34 : Ext No w3 w4 := hw4.still fun k hk => hk.elim (fun hk => ⟨_, .head _, hk.symm, hb43⟩) fun hk => ⟨_, .tail _ (.head _), hk.symm, hb23⟩
      refine ih (zs.length - (i + 1)) (by omega) _ _ w4 ?_ ⟨i + 1, vr, v', zr, _, hil, rfl, hE3.trans hE34, hb43.ext0 hE34, hb23.ext0 hE34, hLr3.ext0 hE34, hLo3.ext0 hE34, ?_, ?_, hr2, hr4, apd_ne hapd u2 ho2, apd_ne hapd u4 ho4, fun k hk => apd_ne hapd (hLr2.own.row.lt hk) (hro k hk), rfl⟩
      · exact ⟨rfl, rfl, rfl, rfl, rfl, rfl, trivial⟩
      · rw [hsr, List.filter_append, hzr]; simp [hP]
      · rw [hsr, List.filter_append, List.map_append, hzo]; simp [hP]
    | false =>
      refine J.cond_f rfl ?_
      repeat (first | (apply JL.y; (first | (apply Y_move; rfl) | (apply Y_fieldAddr; rfl; rfl) | (apply Y_load1 1; rfl; rfl; rfl; exact inferInstance)); rfl) | refine J.region ?_)
      apply JL.y (Y_indexAddr rfl rfl (by omega)) rfl
      apply JL.y (Y_loadP rfl fun w' hw' => l1.at_ (hst hw' (by simp) (by simp)) fun _ _ _ h => h) rfl
      rw [hws]
      repeat (first | (apply JL.bslice1; rfl; rfl; rfl; rfl; rfl; rfl; intro _))
      refine JL.intro fun w2 hw2 => ?_
      have hE12 := hst hw2 (by simp) (by simp)
      have hLo2 := hLo.ext0 hE12
      have hLr2 := hLr.ext0 hE12
      have hx2 : Foot (fun w => MsgC w (msgC ws z.2) z.2) w2 (fun k => ok k ∧ k < w.heap.size) := ((MsgC.mk hwr hl8).old (hE.trans hE12) fun _ _ _ h => h)
      have hb4' := hw2.has _ (.tail _ (.head _))
      have hb2' := hw2.has _ (.tail _ (.tail _ (.head _)))
      have u4 := hb4'.lt
      have u2 := hb2'.lt
      simp only at u4 u2
      refine GL.append1 rfl rfl hLr2.own.row (hw2.has _ (.head _)) rfl rfl (msgC_one ho) (by simp; omega) rfl rfl fun v' w3 hrow hapd => ?_
      have hLr3 := hLr2.app hrow hapd hx2 (hE.trans hE12).size
      have hLo3 := hLo2.ext hapd.ext fun k _ hv => ⟨hLr2.new k hv, fun h => hro k hv h⟩
      have hb43 := hb4'.keep hapd.ext hr4
      have hb23 := hb2'.keep hapd.ext hr2
      have hE3 : Ext No w w3 := (hE.trans hE12).then hapd.ext fun k hk hv => by have := hLr2.new k hv; omega
      refine GL.of_JL (C := Cls w3 (fun k => k = b4 ∨ k = b2) [_, _]) (Cls.start2 hb43 hb23 b24) ?_
      repeat (first | (apply JL.y; (first | (apply Y_move; rfl) | (apply Y_assign; rfl) | (apply Y_add; rfl; rfl; omega)); rfl) | refine J.region ?_ | refine JL.nil ?_ | refine J.inBlock ?_)
      refine J.intro fun w4 hw4 => ?_
      have hE34 : Ext No w3 w4 := hw4.still fun k hk => hk.elim (fun hk => ⟨_, .head _, hk.symm, hb43⟩) fun hk => ⟨_, .tail _ (.head _), hk.symm, hb23⟩
      refine ih (zs.length - (i + 1)) (by omega) _ _ w4 ?_ ⟨i + 1, v', vo, _, zo, hil, rfl, hE3.trans hE34, hb43.ext0 hE34, hb23.ext0 hE34, hLr3.ext0 hE34, hLo3.ext0 hE34, ?_, ?_, apd_ne hapd u2 hr2, apd_ne hapd u4 hr4, ho2, ho4, fun k hk hv => apd_ne hapd (hLo2.own.row.lt hv) (fun h => hro k h hv) hk, rfl⟩
      · exact ⟨rfl, rfl, rfl, rfl, rfl, rfl, trivial⟩
      · rw [hsr, List.filter_append, List.map_append, hzr]; simp [hP]
      · rw [hsr, List.filter_append, hzo]; simp [hP]
  · have hie : i = zs.length := by omega
    rw [hie, List.take_of_length_le (by simp)] at hzr hzo
    repeat (first | (apply JL.y; (first | (apply Y_move; rfl) | (apply Y_assign; rfl) | (apply Y_fieldAddr; rfl; rfl) | (apply Y_loadW 1; rfl; rfl; exact inferInstance; rfl)); rfl) | refine J.seq ?_ | refine J.region ?_ | refine JL.nil ?_ | (apply JL.store; (first | (apply St_1 1; rfl; rfl; exact inferInstance; (first | rfl | assumption); rfl; rfl; (first | (focus (simp only [List.set_cons_zero, List.set_cons_succ]; done)) | (simp only [List.set_cons_zero, List.set_cons_succ]; rfl))) | (apply St_W 0; rfl; rfl; rfl; exact inferInstance; rfl; rfl; (first | (focus (simp [Value.oneCell']; done)) | (simp [Value.oneCell']; assumption) | (simp [Value.oneCell']; exact ⟨by assumption, by assumption⟩)); (first | (focus (simp only [List.set_cons_zero]; done)) | (simp only [List.set_cons_zero]; rfl))))) | (apply J.exit; rfl))
    refine J.ret2 Try.func36 Try.results36 (RV.W 0 rfl rfl rfl) (RV.tm rfl) fun w' hw' => ?_
    have hx := hw'.ext
    have hD : ∀ k, (k = b4 ∨ k = b2) → w.heap.size ≤ k := fun k hk => by omega
    refine ⟨_, rfl, hE.then hx fun k hk h => by have := hD k h; omega, vr, vo, zr, zo, rfl, hLr.ext hx fun k _ h => ⟨hD k h, fun h' => ?_⟩, hLo.ext hx fun k _ h => ⟨hD k h, fun h' => ?_⟩, hzr, hzo⟩
    · rcases h with rfl | rfl
      · exact hr4 h'
      · exact hr2 h'
    · rcases h with rfl | rfl
      · exact ho4 h'
      · exact ho2 h'
end Go.Proofs.Ytmkpbbdocndfbaa
