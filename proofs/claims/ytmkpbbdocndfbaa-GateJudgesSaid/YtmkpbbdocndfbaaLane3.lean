/- lane: Put. -/
import Derived.Test.YtmkpbbdocndfbaaLane2
namespace Go.Proofs.Ytmkpbbdocndfbaa
open Go.RowKit Go.Proofs
attribute [local irreducible] Yl JL J G GL GA GQ DR

/-- Lanes behind an operation. -/
def LTo (w w' : World) (g : Nat) (O E : Nat → Prop) (ln pl : Int) (ms : List Msg) : Prop :=
  Ext O w w' ∧ ∃ O' E', LObj w' g O' E' ln pl ms ∧ (∀ k, O' k → O k ∨ w.heap.size ≤ k) ∧ (∀ k, E' k → E k ∨ w.heap.size ≤ k)
theorem LTo.same {w w' : World} {g : Nat} {O E : Nat → Prop} {ln pl : Int} {ms : List Msg} (h : LObj w g O E ln pl ms) (he : Ext No w w') : LTo w w' g O E ln pl ms :=
  ⟨he.no, O, E, h.ext0 he, fun _ h => .inl h, fun _ h => .inl h⟩
def putR (ln pl : Int) (ms : List Msg) (m : Msg) : Int × List Msg :=
  if ¬ (0 ≤ m.lane ∧ m.lane < ln) then (3, ms) else if room ln pl ms m.lane = 0 then (10, ms) else (0, ms ++ [m])
theorem cnt_snoc (ms : List Msg) (m : Msg) (q : Int) : cnt (ms ++ [m]) q = cnt ms q + if m.lane = q then 1 else 0 := by
  unfold cnt
  rw [List.filter_append, List.length_append]
  by_cases h : m.lane = q
  · simp [h]
  · have : (m.lane == q) = false := by simpa using h
    simp [h, this]

set_option maxHeartbeats 1000000 in
/-- lane.Put. -/
theorem lanePut_spec {w : World} {g : Nat} {O E : Nat → Prop} {ln pl : Int} {ms : List Msg} (h : LObj w g O E ln pl ms) {okm : Nat → Prop} {v : Value} {m : Msg} (hm : Foot (fun w => RMsg w v m) w okm) :
    Calls Try.prog 31 #[.pointer (some ⟨g, 0, none⟩), v] w fun e w' => ∃ r, e = .returned r ∧ r = .int .i64 (putR ln pl ms m).1 ∧ LTo w w' g O E ln pl (putR ln pl ms m).2 := by
  have hlen := h.len
  have hf := h.few m.lane
  obtain ⟨ws, rfl, hws, hl8, ho⟩ := RMsg.open_ hm
  obtain ⟨sl, zs, hb, hsl, hOwn, hz⟩ := h.ex
  have hgsz : g < w.heap.size := hb.lt
  have hl2 : Foot (Lds Try.prog 26 ⟨g, 2, none⟩ sl) w (fun k => k = g) := hb.foot.imp fun w hb => Lds.one hb rfl
  refine Calls.of_G2 Try.func31 rfl Try.ntmps31 rfl ?_
  refine J.at (C := Cls w No []) ?_ (Cls.start _ _)
  unfold msgC
  repeat (first | (apply JL.y; (first | (apply Y_move; rfl) | (apply Y_assign; rfl) | (apply Y_fieldAddr; rfl; rfl) | (apply Y_load1 0; rfl; rfl; rfl; exact inferInstance) | (apply Y_not_d; rfl)); rfl) | refine J.seq ?_ | refine J.region ?_ | refine JL.nil ?_ | (apply JL.callq; rfl; rfl; (intro wc hwc; first | exact laneIs_spec (h.ext0 hwc.ext) _)) | (apply JL.box; rfl; rfl; rfl; intro _) | refine J.block ?_)
  refine J.cond_d rfl (fun hc => ?_) (fun hc => ?_)
  · repeat (first | (apply JL.y; (apply Y_assign; rfl); rfl) | refine J.seq ?_ | refine J.region ?_ | refine JL.nil ?_)
    exact J.ret1 Try.func31 Try.results31 (RV.tm rfl) fun w' hw' => ⟨_, rfl, by rw [putR, if_pos hc], by rw [putR, if_pos hc]; exact LTo.same h hw'.ext⟩
  have hc' := Classical.not_not.1 hc
  repeat (first | (apply JL.y; (first | (apply Y_move; rfl) | (apply Y_assign; rfl) | (apply Y_fieldAddr; rfl; rfl) | (apply Y_load1 0; rfl; rfl; rfl; exact inferInstance) | (apply Y_eql; rfl; rfl)); rfl) | refine J.seq ?_ | refine J.region ?_ | refine JL.nil ?_ | (apply JL.callq; rfl; rfl; (intro wc hwc; first | exact laneRoom_spec (h.ext0 hwc.ext) _)))
  refine J.cond_d rfl (fun hr => ?_) (fun hr => ?_)
  · repeat (first | (apply JL.y; (apply Y_assign; rfl); rfl) | refine J.seq ?_ | refine J.region ?_ | refine JL.nil ?_)
    exact J.ret1 Try.func31 Try.results31 (RV.tm rfl) fun w' hw' => ⟨_, rfl, by rw [putR, if_neg hc, if_pos hr], by rw [putR, if_neg hc, if_pos hr]; exact LTo.same h hw'.ext⟩
  have hput : putR ln pl ms m = (0, ms ++ [m]) := by rw [putR, if_neg hc, if_neg hr]
  rw [hput]
  have hzl : zs.length ≤ 24 := by have := congrArg List.length hz; simp at this; omega
  obtain ⟨w00, hw00⟩ : ∃ w00, w00 = w := ⟨_, rfl⟩
  have hEg : ¬ E g := h.oe g h.og
  have hElt := h.lt
  have hOg := h.og
  have hoe := h.oe
  repeat (first | refine J.seq ?_ | refine J.skip ?_ | refine J.inBlock ?_)
  refine J.draw (S := Cls _ _ _) [8, 11] #[false, false, false, false, false, false, false, false, false, false, false, false] rfl rfl (fun w hw => hw.drew) (fun w hS => ?_)
  (apply DR.pure 0 #[true, false, false, false, false, false, false, false, false, false, false, false]; rfl; kernel_rfl; (apply Y_move; rfl); rfl)
  (apply DR.pure 1 #[true, true, false, false, false, false, false, false, false, false, false, false]; rfl; kernel_rfl; (apply Y_move; rfl); rfl)
  (apply DR.pure 2 #[true, true, true, false, false, false, false, false, false, false, false, false]; rfl; kernel_rfl; (first | (apply Y_nilCheck; rfl) | (apply Y_nilCheckF; rfl)); rfl)
  (apply DR.pure 3 #[true, true, true, true, false, false, false, false, false, false, false, false]; rfl; kernel_rfl; (apply Y_fieldAddr; rfl; rfl); rfl)
  (apply DR.take 4 #[true, true, true, true, true, false, false, false, false, false, false, false]; rfl; kernel_rfl; exact Y_loadP rfl fun w hw => hl2.at_ hw.ext fun _ _ _ h => h; rfl; exact hS)
  (apply DR.take 5 #[true, true, true, true, true, true, false, false, false, false, false, false]; rfl; kernel_rfl; (first | (apply Y_load1 0; rfl; rfl; rfl; exact inferInstance) | (apply Y_load1 1; rfl; rfl; rfl; exact inferInstance) | (apply Y_load1 2; rfl; rfl; rfl; exact inferInstance) | (apply Y_load1 3; rfl; rfl; rfl; exact inferInstance) | (apply Y_loadW 0; rfl; rfl; exact inferInstance; rfl) | (apply Y_loadW 1; rfl; rfl; exact inferInstance; rfl) | (apply Y_loadW 2; rfl; rfl; exact inferInstance; rfl) | (apply Y_loadW 3; rfl; rfl; exact inferInstance; rfl)); rfl; exact hS)
  refine DR.call 6 #[true, true, true, true, true, true, true, false, false, false, false, false] (fun v w' => ∃ ws', v = .agg (msgC ws' m).toArray ∧ Ext No _ w' ∧ Foot (fun w => RInts w ws' m.words) w' (fun k => w00.heap.size ≤ k) ∧ ws'.oneCell' = true) rfl (by kernel_rfl) rfl rfl rfl ((clone_spec (RMsg.mk (hws.ext0 hS.ext) hl8)).mono fun en w' ⟨r, h1, ws', h2, h3, h4, h5, _⟩ => ⟨r, h1, ws', h2, h3, h4.mono fun k _ hk => by rw [hw00]; exact Nat.le_trans hS.ext.size hk, h5⟩) (fun v w' ⟨ws', hv⟩ => hS.ext0 hv.2.1) (fun v w2 ⟨ws', hv, hE2, hF, ho2⟩ hS => ?_)
  subst hv
  refine DR.bslice1 7 #[true, true, true, true, true, true, true, true, false, false, false, false] rfl (by kernel_rfl) rfl inferInstance inferInstance rfl rfl rfl rfl rfl rfl (Cls.start No w2) (fun w' hw' => hS.ext0 hw') (fun bb w3 hC3 hS => ?_)
  have hF3 := (MsgC.mk hF hl8).ext0 hC3.ext
  have hO3 := hOwn.ext0 hS.ext
  refine DR.append1 8 #[true, true, true, true, true, true, true, true, true, false, false, false] rfl (by kernel_rfl) rfl inferInstance rfl rfl hO3.row (hC3.has _ (.head _)) rfl rfl (msgC_one ho2) (by simp; omega) rfl rfl (fun v' w4 hrow hapd => ?_)
  have hE3 := hS.ext
  have hO4 := hO3.append hrow hapd hF3 (fun k hk hle hv => by have := (hsl k hv).1; have := hElt k (.inl this); rw [hw00] at hle; omega)
  have hg4 : BlkIn w4 _ := (hb.ext0 hE3).keep hapd.ext (fun hv => (hsl g hv).2 rfl)
  have hne : v'.ownBlock ≠ some g := fun hv => by
    rcases hapd.at_ with h1 | h1 <;> rw [h1] at hv
    · exact (hsl g hv).2 rfl
    · injection hv with hv; have := hE3.size; omega
  have hv1 : v'.oneCell' = true := hrow.one
  (apply DR.pure 9 #[true, true, true, true, true, true, true, true, true, true, false, false]; rfl; kernel_rfl; (first | (apply Y_nilCheck; rfl) | (apply Y_nilCheckF; rfl)); rfl)
  (apply DR.pure 10 #[true, true, true, true, true, true, true, true, true, true, true, false]; rfl; kernel_rfl; (apply Y_fieldAddr; rfl; rfl); rfl)
  refine DR.store (C := Cls w4 (fun k => k = g) [⟨g, [.int .i64 ln, .int .i64 pl, sl], 139⟩]) (C' := Cls w4 (fun k => k = g) [⟨g, [.int .i64 ln, .int .i64 pl, v'], 139⟩]) 11 #[true, true, true, true, true, true, true, true, true, true, true, true] rfl (by kernel_rfl) rfl (Cls.start1 hg4) ?_ (fun w5 hC5 => ?_)
  · exact St_1 0 rfl rfl inferInstance hv1 rfl rfl rfl
  refine DR.done (by kernel_rfl) ?_
  refine J.at (C := Cls w5 No []) ?_ (Cls.start _ _)
  repeat (first | (apply JL.y; (apply Y_assign; rfl); rfl) | refine J.seq ?_ | refine J.region ?_ | refine JL.nil ?_)
  subst hw00
  have hg5 : BlkIn w5 ⟨g, [.int .i64 ln, .int .i64 pl, v'], 139⟩ := hC5.has _ (.head _)
  have hE5 := hC5.ext
  have hs3 := hE3.size
  have hs4 := hapd.ext.size
  have hs5 := hE5.size
  have hvlt : ∀ k, v'.ownBlock = some k → k < w4.heap.size := fun k hk => hrow.lt hk
  refine J.ret1 Try.func31 Try.results31 (RV.tm rfl) fun w6 hw6 => ⟨_, rfl, rfl, ?_, fun k => k = g ∨ v'.ownBlock = some k, _, ⟨⟨v', _, hg5.ext0 hw6.ext, fun k hk => ⟨.inr hk, fun hkg => hne (hkg ▸ hk)⟩, (hO4.ext hE5 (fun k hk hkg => hne (hkg ▸ hk)) (fun k hk ho hkg => ?_)).ext0 hw6.ext, by simp [hz]⟩, .inl rfl, fun k hk he => ?_, fun k hk => ?_, h.hln, h.hpl, ?_, ?_⟩, fun k hk => ?_, fun k hk => ?_⟩
  · exact (((hE3.no (D := O)).then hapd.ext fun k _ hk => (hsl k hk).1).then hE5 fun k _ hk => hk ▸ hOg).thenNo hw6.ext
  · subst hkg
    rcases ho.1 with h1 | h1
    · exact hEg h1
    · omega
  · rcases hk with rfl | hk
    · rcases he.1 with h1 | h1
      · exact hEg h1
      · omega
    · exact he.2.2 hk
  · have hs6 := hw6.ext.size
    rcases hk with (rfl | hk) | hk
    · omega
    · have := hvlt k hk; omega
    · have := hk.2.1; omega
  · intro m' hm'
    rcases List.mem_append.1 hm' with hm' | hm'
    · exact h.wf m' hm'
    · simp at hm'; subst hm'; exact hc'
  · intro q
    have h1 := cnt_snoc ms m q
    have h2 : cnt ms q ≤ pl := h.few q
    show ((((ms ++ [m]).filter fun m => m.lane == q).length : Nat) : Int) ≤ pl
    unfold cnt at h1 h2
    by_cases hq : m.lane = q
    · rw [if_pos hq] at h1
      subst hq
      rw [room, if_pos hc'] at hr
      unfold cnt at hr
      omega
    · rw [if_neg hq] at h1; omega
  · rcases hk with rfl | hk
    · exact .inl hOg
    · rcases hapd.at_ with h1 | h1 <;> rw [h1] at hk
      · exact .inl (hsl k hk).1
      · injection hk with hk; exact .inr (by omega)
  · exact hk.1
end Go.Proofs.Ytmkpbbdocndfbaa
