/- lane: Sweep, Flush, Peek. -/
import Derived.Test.YtmkpbbdocndfbaaLane5
namespace Go.Proofs.Ytmkpbbdocndfbaa
open Go.RowKit Go.Proofs
attribute [local irreducible] Yl JL J G GL GA GQ DR

def late (now : Int) (m : Msg) : Bool := decide (cut m.late ≤ cut now)
theorem sweepDec (nb : Nat) (now : Int) : Dec 107 [.pointer (some ⟨nb, 0, none⟩)] (fun _ m => late now m) (fun k => k = nb) (fun _ w => BlkIn w ⟨nb, [.int .i64 now], 3⟩ ) where
  ci := inferInstance
  keep := fun i w1 w2 D h he hd => h.keep he (hd nb rfl)
  run := fun i w1 ws m hi h => by
    have hl : Foot (Lds Try.prog 3 ⟨nb, 0, none⟩ (.int .i64 now)) w1 (fun k => k = nb) := h.foot.imp fun w hb => Lds.one hb rfl
    refine Calls.of_G2 Try.func107 rfl Try.ntmps107 rfl ?_
    refine J.at (C := Cls w1 No []) ?_ (Cls.start _ _)
    unfold msgC
    repeat (first | (apply JL.y; (first | (apply Y_assign; rfl) | (apply Y_fieldAddr; rfl; rfl) | (apply Y_load1 0; rfl; rfl; rfl; exact inferInstance) | (apply Y_loadP; rfl; (intro wc hwc; first | exact hl.at_ hwc.ext (fun _ _ _ h => h) | exact late_spec _ _ _))); rfl) | refine J.seq ?_ | refine J.region ?_ | refine JL.nil ?_ | (apply JL.callq; rfl; rfl; (intro wc hwc; first | exact hl.at_ hwc.ext (fun _ _ _ h => h) | exact late_spec _ _ _)) | (apply JL.box; rfl; rfl; rfl; intro _))
    refine J.ret1 Try.func107 Try.results107 (RV.tm rfl) fun w' hw' => ⟨rfl, hw'.ext.no, h.ext0 hw'.ext⟩
theorem flushDec : Dec 109 [] (fun _ _ => true) No (fun _ _ => True) where
  ci := inferInstance
  keep := fun i w1 w2 D h he hd => trivial
  run := fun i w1 ws m hi h => by
    refine Calls.of_G1 Try.func109 rfl Try.ntmps109 rfl ?_
    refine J.at (C := Cls w1 No []) ?_ (Cls.start _ _)
    unfold msgC
    repeat (first | (apply JL.y; (apply Y_assign; rfl); rfl) | refine J.seq ?_ | refine J.region ?_ | refine JL.nil ?_ | (apply JL.box; rfl; rfl; rfl; intro _))
    refine J.ret1 Try.func109 Try.results109 (RV.tm rfl) fun w' hw' => ⟨rfl, hw'.ext, trivial⟩

theorem filt_map (p : Msg → Bool) (xs : Zs) : (xs.filter (fun z => p z.2)).map (·.2) = (xs.map (·.2)).filter p := by
  rw [List.filter_map]; rfl
/-- lane.Sweep. -/
theorem laneSweep_spec {w : World} {g : Nat} {O E : Nat → Prop} {ln pl : Int} {ms : List Msg} (h : LObj w g O E ln pl ms) (now : Int) :
    Calls Try.prog 38 #[.pointer (some ⟨g, 0, none⟩), .int .i64 now] w fun e w' => ∃ r, e = .returned r ∧ ∃ zs : Zs, Own 33 5 MsgC w' (fun k => E k ∧ k < w.heap.size) r zs ∧ (∀ k, r.ownBlock = some k → w.heap.size ≤ k) ∧ zs.map (·.2) = (St.srt Msg.lane ms).filter (late now) ∧ LTo w w' g O E ln pl ((St.srt Msg.lane ms).filter fun m => !late now m) := by
  have hElt := h.lt
  refine Calls.of_G2 Try.func38 rfl Try.ntmps38 rfl ?_
  refine J.at (C := Cls w No []) ?_ (Cls.start _ _)
  repeat (first | (apply JL.y; (first | (apply Y_move; rfl) | (apply Y_assign; rfl) | (apply Y_makeFunc; rfl)); rfl) | refine J.seq ?_ | refine J.region ?_ | refine JL.nil ?_ | (apply JL.box; rfl; rfl; rfl; intro _))
  rename_i nb
  have hdec := sweepDec nb now
  refine JL.call (fun w1 r w2 => _) rfl rfl (fun w1 hw1 => (split_spec (h.ext0 hw1.ext) hdec (hw1.has _ (.head _)) (fun k hk => by
    subst hk
    have h1 := (hw1.has _ (.head _)).lt
    have h2 := (hw1.mine _ (.head _)).resolve_left id
    simp only at h1 h2
    exact ⟨h1, fun ho => by have := hElt _ (.inl ho); omega, fun ho => by have := hElt _ (.inr ho); omega⟩))) fun w1 r w2 hw1 ⟨hE, xs, hxm, ⟨O', E', hL, hO', hE', hrO⟩, hOwn, hrn⟩ => ?_
  have hs1 := hw1.ext.size
  have hmc := (hw1.mine _ (.head _)).resolve_left id
  simp only at hmc
  have hE02 : Ext O w w2 := hw1.ext.no.then hE fun k hk hd => hd.resolve_right fun h => by omega
  rw [selL_filter (late now)] at hOwn
  rw [selL_filter (fun m => !late now m), filt_map (fun m => !late now m), hxm] at hL
  have hOwn' := hOwn.mono (ok' := fun k => E k ∧ k < w.heap.size) (fun k _ hk => ⟨hk.1, hElt k (.inr hk.1)⟩) (fun k hk hv => by have := hrn k hv; omega)
  refine GL.of_JL (C := Cls w2 No []) (Cls.start _ _) ?_
  repeat (first | (apply JL.y; (apply Y_assign; rfl); rfl) | refine JL.nil ?_)
  refine J.ret1 Try.func38 Try.results38 (RV.tm rfl) fun w4 hw4 => ⟨_, rfl, _, hOwn'.ext0 hw4.ext, fun k hk => Nat.le_trans hs1 (hrn k hk), by rw [filt_map, hxm], hE02.trans hw4.ext.no, O', E', hL.ext0 hw4.ext, fun k hk => ?_, fun k hk => .inl (hE' k hk)⟩
  rcases hO' _ hk with h1 | h1
  · exact .inl h1
  · exact .inr (by omega)
/-- lane.Flush. -/
theorem laneFlush_spec {w : World} {g : Nat} {O E : Nat → Prop} {ln pl : Int} {ms : List Msg} (h : LObj w g O E ln pl ms) :
    Calls Try.prog 39 #[.pointer (some ⟨g, 0, none⟩)] w fun e w' => ∃ r, e = .returned r ∧ ∃ zs : Zs, Own 33 5 MsgC w' (fun k => E k ∧ k < w.heap.size) r zs ∧ (∀ k, r.ownBlock = some k → w.heap.size ≤ k) ∧ zs.map (·.2) = St.srt Msg.lane ms ∧ LTo w w' g O E ln pl [] := by
  have hElt := h.lt
  refine Calls.of_G1 Try.func39 rfl Try.ntmps39 rfl ?_
  refine J.at (C := Cls w No []) ?_ (Cls.start _ _)
  repeat (first | (apply JL.y; (first | (apply Y_move; rfl) | (apply Y_assign; rfl)); rfl) | refine J.seq ?_ | refine J.region ?_ | refine JL.nil ?_)
  refine JL.call (fun w1 r w2 => _) rfl rfl (fun w1 hw1 => (split_spec (h.ext0 hw1.ext) flushDec trivial (fun k hk => hk.elim))) fun w1 r w2 hw1 ⟨hE, xs, hxm, ⟨O', E', hL, hO', hE', hrO⟩, hOwn, hrn⟩ => ?_
  have hs1 := hw1.ext.size
  have hE02 : Ext O w w2 := hw1.ext.no.then hE fun k hk hd => hd.resolve_right fun h => h
  rw [selL_filter (fun _ => true), List.filter_eq_self.2 (by simp)] at hOwn
  rw [selL_filter (fun _ => !true), List.filter_eq_nil_iff.2 (by simp)] at hL
  have hOwn' := hOwn.mono (ok' := fun k => E k ∧ k < w.heap.size) (fun k _ hk => ⟨hk.1, hElt k (.inr hk.1)⟩) (fun k hk hv => by have := hrn k hv; omega)
  refine GL.of_JL (C := Cls w2 No []) (Cls.start _ _) ?_
  repeat (first | (apply JL.y; (apply Y_assign; rfl); rfl) | refine JL.nil ?_)
  refine J.ret1 Try.func39 Try.results39 (RV.tm rfl) fun w4 hw4 => ⟨_, rfl, _, hOwn'.ext0 hw4.ext, fun k hk => Nat.le_trans hs1 (hrn k hk), hxm, hE02.trans hw4.ext.no, O', E', hL.ext0 hw4.ext, fun k hk => ?_, fun k hk => .inl (hE' k hk)⟩
  rcases hO' _ hk with h1 | h1
  · exact .inl h1
  · exact .inr (by omega)
/-- lane.Peek. -/
theorem lanePeek_spec {w : World} {g : Nat} {O E : Nat → Prop} {ln pl : Int} {ms : List Msg} (h : LObj w g O E ln pl ms) :
    Calls Try.prog 33 #[.pointer (some ⟨g, 0, none⟩)] w fun e w' => ∃ r, e = .returned r ∧ Ext No w w' ∧ ∃ v, r = .tuple #[v, .bool (takeR (St.srt Msg.lane ms)).2.1] ∧ Foot (fun w => RMsg w v (takeR (St.srt Msg.lane ms)).1) w' (fun k => w.heap.size ≤ k) := by
  refine Calls.of_G1 Try.func33 rfl Try.ntmps33 rfl ?_
  refine J.at (C := Cls w No []) ?_ (Cls.start _ _)
  repeat (first | (apply JL.y; (first | (apply Y_move; rfl) | (apply Y_assign; rfl)); rfl) | refine J.seq ?_ | refine J.region ?_ | refine JL.nil ?_ | (apply JL.alloc; rfl; rfl; intro _))
  rename_i b2
  refine JL.call (fun w1 r w2 => _) rfl rfl (fun w1 hw1 => laneAll_spec (h.ext0 hw1.ext)) fun w1 r w2 hw1 ⟨hE, zs, hN, hz⟩ => ?_
  have hs1 := hw1.ext.size
  have hb2 := hw1.has _ (.head _)
  have hlt2 := hb2.lt
  have hm2 := (hw1.mine _ (.head _)).resolve_left id
  simp only at hlt2 hm2
  obtain ⟨A, c, hr, hcap, hmx⟩ := hN.own.slice
  subst hr
  refine GL.of_JL (C := Cls w2 _ [_]) (Cls.start1 (hb2.ext0 hE)) ?_
  have hfin : ∀ w4 : World, Ext (fun k => k = b2) w2 w4 → Ext No w w4 := fun w4 he => (hw1.ext.trans hE).then he fun k hk hd => by
    have hd' : k = b2 := hd
    omega
  repeat (first | (apply JL.y; (first | (apply Y_move; rfl) | (apply Y_assign; rfl) | (apply Y_len; rfl) | (apply Y_eql; rfl; rfl)); rfl) | refine J.seq ?_ | refine J.region ?_ | refine JL.nil ?_)
  cases zs with
  | nil =>
    have hs : St.srt Msg.lane ms = [] := hz.symm
    refine J.cond_t rfl ?_
    repeat (first | (apply JL.y; (first | (apply Y_assign; rfl) | (apply Y_build; rfl; exact inferInstance)); rfl) | refine J.seq ?_ | refine J.region ?_ | refine JL.nil ?_ | (apply JL.store; (apply St_W 0; rfl; rfl; rfl; exact inferInstance; rfl; rfl; (first | (focus (simp [Value.oneCell']; done)) | (simp [Value.oneCell']; assumption) | (simp [Value.oneCell']; exact ⟨by assumption, by assumption⟩)); (first | (focus (simp only [List.set_cons_zero]; done)) | (simp only [List.set_cons_zero]; rfl)))))
    refine J.ret2 Try.func33 Try.results33 (RV.W 0 rfl rfl rfl) (RV.tm rfl) fun w4 hw4 => ⟨_, rfl, hfin w4 hw4.ext, _, by rw [hs]; rfl, ?_⟩
    rw [hs]
    exact zero_msg w4 _
  | cons z zs =>
    have hs : St.srt Msg.lane ms = z.2 :: zs.map (·.2) := hz.symm
    have hzf := hN.own.el z (by simp)
    obtain ⟨ws, hws, hwr, hl8, ho⟩ := MsgC.open_ hzf
    have hRd := hN.reads
    obtain ⟨ad, _, e1⟩ := hRd.base (by omega) (by simp)
    cases e1
    have l1 := hRd.lds (P := Try.prog) (t := 33) (i := 0) (z := z) rfl
    have hbO : ∀ k, w1.heap.size ≤ k → ¬ k = b2 := fun k hk hkb => by omega
    have hzl : 0 < (z :: zs).length := by simp
    refine J.cond_f rfl ?_
    repeat (first | (apply JL.y; (apply Y_move; rfl); rfl) | refine J.seq ?_ | refine J.region ?_ | refine J.skip ?_)
    apply JL.y (Y_indexAddr rfl rfl (by omega)) rfl
    apply JL.y (Y_loadP rfl fun w hw => l1.at_ hw.ext fun k _ hk => hbO k hk) rfl
    rw [hws]
    unfold msgC
    repeat (first | (apply JL.y; (apply Y_assign; rfl); rfl) | refine JL.nil ?_ | (apply JL.store; (apply St_W 0; rfl; rfl; rfl; exact inferInstance; rfl; rfl; (first | (focus (simp [Value.oneCell']; done)) | (simp [Value.oneCell']; assumption) | (simp [Value.oneCell']; exact ⟨by assumption, by assumption⟩)); (first | (focus (simp only [List.set_cons_zero]; done)) | (simp only [List.set_cons_zero]; rfl)))))
    refine J.ret2 Try.func33 Try.results33 (RV.W 0 rfl rfl rfl) (RV.tm rfl) fun w4 hw4 => ⟨_, rfl, hfin w4 hw4.ext, _, by rw [hs]; rfl, ?_⟩
    rw [hs]
    refine (((RMsg.mk hwr hl8).ext hw4.ext fun k _ hk => hbO k hk.1)).mono fun k _ hk => Nat.le_trans hs1 hk.1
end Go.Proofs.Ytmkpbbdocndfbaa
