/- lane: Of, Room, Put. -/
import Derived.Test.YtmkpbbdocndfbaaDraw2
namespace Go.Proofs.Ytmkpbbdocndfbaa
open Go.RowKit Go.Proofs
attribute [local irreducible] Yl JL J G GL GA GQ DR

theorem filt_srt (ms : List Msg) (q : Int) : (St.srt Msg.lane ms).filter (fun m => m.lane == q) = ms.filter (fun m => m.lane == q) := St.srt_stb ms q
theorem MRow.foot {w : World} {v : Value} {ts : List (Value × Msg)} (h : MRow w v ts) : Foot (fun w => MRow w v ts) w (fun k => v.ownBlock = some k) := Row.foot h
/-- lane.Of. -/
theorem laneOf_spec {w : World} {g : Nat} {O E : Nat → Prop} {ln pl : Int} {ms : List Msg} (h : LObj w g O E ln pl ms) (q : Int) : Calls Try.prog 44 #[.pointer (some ⟨g, 0, none⟩), .int .i64 q] w fun e w' => ∃ r, e = .returned r ∧ Ext No w w' ∧ ∃ zs, Rd 5 MsgC w' (fun k => w.heap.size ≤ k) r zs ∧ zs.map (·.2) = ms.filter (fun m => m.lane == q) := by
  have hlen := h.len
  refine Calls.of_G2 Try.func44 rfl Try.ntmps44 rfl ?_
  refine J.at (C := Cls w No []) ?_ (Cls.start _ _)
  repeat (first | (apply JL.y; (first | (apply Y_move; rfl) | (apply Y_assign; rfl)); rfl) | refine J.seq ?_ | refine J.region ?_ | refine JL.nil ?_ | (apply JL.box; rfl; rfl; rfl; intro _))
  refine JL.call _ rfl rfl (fun w1 hw1 => laneAll_spec (h.ext0 hw1.ext)) fun w1 r w2 hw1 ⟨hE, zs, hN, hz⟩ => ?_
  have hc := hw1.ext0 hE
  refine GL.of_JL (C := Cls w2 No []) (Cls.start _ _) ?_
  have hkb := hc.has _ (.head _)
  have hkb1 := (hw1.has _ (.head _)).lt
  obtain ⟨hp, hone⟩ := prs_eq (xs := zs) fun z hz => by obtain ⟨ws, h1, _, _, h2⟩ := MsgC.open_ (hN.own.el z hz); exact ⟨ws, h1, h2⟩
  have hrw := prs_row zs hp
  have hpl : (prs zs).length = zs.length := by simp [prs]
  have hzl : zs.length = ms.length := by have := congrArg List.length hz; simpa [St.srt_len] using this
  have hR : MRow w2 r (prs zs) := by unfold MRow; rw [hrw]; exact hN.own.row
  repeat (first | (apply JL.y; (apply Y_makeFunc; rfl); rfl))
  refine JL.call _ rfl rfl (fun w3 hw3 => deleteMsg_spec (hR.ext0 hw3.ext) (by omega) hone (hkb.ext0 hw3.ext) (fun hb => by have := hN.new _ hb; simp at hkb1; omega)) fun w3 r' w4 hw3 ⟨hE4, hR4, hb4⟩ => ?_
  refine GL.of_JL (C := Cls w4 No []) (Cls.start _ _) ?_
  repeat (first | (apply JL.y; (apply Y_assign; rfl); rfl) | refine JL.nil ?_)
  have hE02 : Ext No w w2 := hc.ext
  have hE03 := hE02.trans hw3.ext
  have hs1 := hw1.ext.size
  have hE04 : Ext No w w4 := hE03.then hE4 fun k hk hd => by have := hN.new k hd; omega
  refine J.ret1 Try.func44 Try.results44 (RV.tm rfl) fun w' hw' => ⟨_, rfl, hE04.trans hw'.ext, ((prs zs).filter (keepq q)).map (fun p => (mch p, p.2)), ⟨?_, fun z hz' => ?_⟩, ?_⟩
  · refine ((hR4.ext0 hw'.ext).foot.imp fun w hw => ?_).mono fun k hk hv => ?_
    · have := Row.rrow hw; simpa [List.map_map, Function.comp_def] using this
    · rw [hb4] at hv; have := hN.new k hv; omega
  · have hzz : z ∈ zs := by
      rw [← hp]
      obtain ⟨p, hp', rfl⟩ := List.mem_map.1 hz'
      exact List.mem_map.2 ⟨p, (List.mem_filter.1 hp').1, rfl⟩
    refine ((((hN.own.el z hzz).ext0 hw3.ext).ext hE4 fun k _ hk hv => hk.2 hv).ext0 hw'.ext).mono fun k _ hk => by have := hk.1; omega
  · rw [← filt_srt, ← hz]
    conv => rhs; rw [← hp]
    rw [List.map_map, List.map_map, List.filter_map]
    rfl
def cnt (ms : List Msg) (q : Int) : Int := ((ms.filter fun m => m.lane == q).length : Int)
def room (ln pl : Int) (ms : List Msg) (q : Int) : Int := if 0 ≤ q ∧ q < ln then pl - cnt ms q else 0
/-- lane.Room. -/
theorem laneRoom_spec {w : World} {g : Nat} {O E : Nat → Prop} {ln pl : Int} {ms : List Msg} (h : LObj w g O E ln pl ms) (q : Int) : Calls Try.prog 42 #[.pointer (some ⟨g, 0, none⟩), .int .i64 q] w fun e w' => e = .returned (.int .i64 (room ln pl ms q)) ∧ Ext No w w' := by
  have hf := h.few q
  have hp := h.hpl
  refine Calls.of_G2 Try.func42 rfl Try.ntmps42 rfl ?_
  refine J.at (C := Cls w No []) ?_ (Cls.start _ _)
  have hl : Foot (Lds Try.prog 3 ⟨g, 1, none⟩ (.int .i64 pl)) w (fun k => k = g) := by
    obtain ⟨sl, zs, hb, _⟩ := h.ex
    exact hb.foot.imp fun w hb => Lds.one hb rfl
  repeat (first | (apply JL.y; (first | (apply Y_move; rfl) | (apply Y_assign; rfl) | (apply Y_not_d; rfl)); rfl) | refine J.seq ?_ | refine J.region ?_ | refine JL.nil ?_ | (apply JL.callq; rfl; rfl; (intro wc hwc; first | exact laneIs_spec (h.ext0 hwc.ext) _)))
  refine J.cond_d rfl (fun hc => ?_) (fun hc => ?_)
  · repeat (first | (apply JL.y; (apply Y_assign; rfl); rfl) | refine J.seq ?_ | refine J.region ?_ | refine JL.nil ?_)
    exact J.ret1 Try.func42 Try.results42 (RV.tm rfl) fun w' hw' => ⟨ret_eq (by rw [room, if_neg hc]), hw'.ext⟩
  have hc' := Classical.not_not.1 hc
  repeat (first | refine J.seq ?_ | refine J.skip ?_)
  refine J.draw (S := Cls _ _ _) [] #[false, false, false, false, false, false, false, false, false, false] rfl rfl (fun w hw => hw.drew) (fun w hS => ?_)
  (apply DR.pure 0 #[true, false, false, false, false, false, false, false, false, false]; rfl; kernel_rfl; (apply Y_move; rfl); rfl)
  (apply DR.pure 1 #[true, true, false, false, false, false, false, false, false, false]; rfl; kernel_rfl; (first | (apply Y_nilCheck; rfl) | (apply Y_nilCheckF; rfl)); rfl)
  (apply DR.pure 2 #[true, true, true, false, false, false, false, false, false, false]; rfl; kernel_rfl; (apply Y_fieldAddr; rfl; rfl); rfl)
  (apply DR.take 3 #[true, true, true, true, false, false, false, false, false, false]; rfl; kernel_rfl; exact Y_loadP rfl fun w hw => hl.at_ hw.ext fun _ _ _ h => h; rfl; exact hS)
  (apply DR.pure 4 #[true, true, true, true, true, false, false, false, false, false]; rfl; kernel_rfl; (apply Y_move; rfl); rfl)
  (apply DR.pure 5 #[true, true, true, true, true, true, false, false, false, false]; rfl; kernel_rfl; (apply Y_move; rfl); rfl)
  refine DR.call 6 #[true, true, true, true, true, true, true, false, false, false] (fun v w' => Ext No _ w' ∧ ∃ A c, v = .slice A (ms.filter (fun m => m.lane == q)).length c) rfl (by kernel_rfl) rfl rfl rfl ((laneOf_spec (h.ext0 hS.ext) q).mono fun en w' he => ?_) (fun v w' hv => hS.ext0 hv.1) (fun v w' ⟨hE, A, c, hv⟩ hS => ?_)
  · obtain ⟨r, h1, hE, zs, hR, hz⟩ := he
    obtain ⟨A, c, hr, _⟩ := hR.slice
    exact ⟨r, h1, hE, A, c, by rw [hr, ← hz]; simp⟩
  subst hv
  (apply DR.pure 7 #[true, true, true, true, true, true, true, true, false, false]; rfl; kernel_rfl; (apply Y_len; rfl); rfl)
  (apply DR.pure 8 #[true, true, true, true, true, true, true, true, true, false]; rfl; kernel_rfl; (apply Y_sub; rfl; rfl; omega); rfl)
  (apply DR.pure 9 #[true, true, true, true, true, true, true, true, true, true]; rfl; kernel_rfl; (apply Y_assign; rfl); rfl)
  refine DR.done (by kernel_rfl) ?_
  refine J.at (C := Cls _ _ _) ?_ hS
  skip
  exact J.ret1 Try.func42 Try.results42 (RV.tm rfl) fun w' hw' => ⟨ret_eq (by rw [room, if_pos hc']; rfl), hw'.ext⟩
end Go.Proofs.Ytmkpbbdocndfbaa
