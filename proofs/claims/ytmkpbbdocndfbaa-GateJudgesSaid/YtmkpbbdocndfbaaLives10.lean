/- law 10: the document's example. -/
import Derived.Test.YtmkpbbdocndfbaaLane6
namespace Go.Proofs.Ytmkpbbdocndfbaa
open Go.RowKit Go.Proofs
attribute [local irreducible] Yl JL J G GL GA GQ DR

theorem LTo.open_ {w w' : World} {g : Nat} {O E : Nat → Prop} {ln pl : Int} {ms : List Msg} (h : LTo w w' g O E ln pl ms) : Ext O w w' ∧ ∃ O' E', LObj w' g O' E' ln pl ms ∧ (∀ k, O' k → O k ∨ w.heap.size ≤ k) ∧ (∀ k, E' k → E k ∨ w.heap.size ≤ k) ∧ (∀ k, k < w.heap.size → ¬ O k → ¬ O' k) ∧ (∀ k, k < w.heap.size → ¬ E k → ¬ E' k) := by
  obtain ⟨h1, O', E', h2, h3, h4⟩ := h
  exact ⟨h1, O', E', h2, h3, h4, fun k hk hn hk' => by rcases h3 k hk' with h | h; exact hn h; omega, fun k hk hn hk' => by rcases h4 k hk' with h | h; exact hn h; omega⟩
theorem lit_msg (w : World) (ok : Nat → Prop) (a b c d : Int) : Foot (fun w => RMsg w (.agg (msgC (.slice none 0 0) ⟨[], a, b, c, d⟩).toArray) ⟨[], a, b, c, d⟩) w ok := Foot.pure fun w => ⟨_, rfl, RRow.nil w 1, by simp⟩

set_option maxHeartbeats 1000000 in
theorem lives10_spec (w : World) : Calls Try.prog 24 #[] w fun e w' => e = .returned (.bool true) ∧ Ext No w w' := by
  refine Calls.of_G0 Try.func24 rfl Try.ntmps24 ?_
  refine J.at (C := Cls w No []) ?_ (Cls.start _ _)
  repeat (first | (apply JL.y; (apply Y_assign; rfl); rfl) | refine J.seq ?_ | refine J.region ?_ | refine JL.nil ?_)
  refine JL.call _ rfl rfl (fun w1 hw1 => laneNew_spec) fun w1 r w2 hw1 ⟨g, hr, hE2, hg, hL2⟩ => ?_
  subst hr
  have hX2 : Ext No w w2 := hw1.ext.trans hE2
  have hs1 := hw1.ext.size
  rw [show cl 1 3 2 = 2 by decide, show cl 1 8 3 = 3 by decide] at hL2
  refine GL.of_JL (C := Cls w2 No []) (Cls.start _ _) ?_
  repeat (first | (apply JL.y; (first | (apply Y_move; rfl) | (apply Y_assign; rfl) | (apply Y_build; rfl; exact inferInstance)); rfl) | refine J.seq ?_ | refine J.region ?_ | refine JL.nil ?_)
  refine JL.call _ rfl rfl (fun w3 hw3 => lanePut_spec (hL2.ext0 hw3.ext) (lit_msg w3 No 1 0 9 1)) fun w3 r w4 hw3 ⟨hr, hLT⟩ => ?_
  subst hr
  rw [show putR 2 3 [] ⟨[], 1, 0, 9, 1⟩ = (0, [⟨[], 1, 0, 9, 1⟩]) by decide] at hLT ⊢
  obtain ⟨hE4, O4, E4, hL4, hO4, hE4', -, -⟩ := hLT.open_
  have hX3 := hX2.trans hw3.ext
  have hX4 : Ext No w w4 := hX3.then hE4 fun k hk hd => by
    have hd' : k = g := hd
    omega
  have hn4 : ∀ k, O4 k ∨ E4 k → w.heap.size ≤ k := fun k hk => by
    have := hX3.size
    rcases hk with hk | hk
    · rcases hO4 k hk with h | h
      · have h' : k = g := h
        omega
      · omega
    · rcases hE4' k hk with h | h
      · exact h.elim
      · omega
  refine GL.of_JL (C := Cls w4 No []) (Cls.start _ _) ?_
  repeat (first | (apply JL.y; (first | (apply Y_move; rfl) | (apply Y_build; rfl; exact inferInstance)); rfl))
  refine JL.call _ rfl rfl (fun w5 hw5 => lanePut_spec (hL4.ext0 hw5.ext) (lit_msg w5 No 0 0 9 2)) fun w5 r w6 hw5 ⟨hr, hLT⟩ => ?_
  subst hr
  rw [show putR 2 3 [⟨[], 1, 0, 9, 1⟩] ⟨[], 0, 0, 9, 2⟩ = (0, [⟨[], 1, 0, 9, 1⟩, ⟨[], 0, 0, 9, 2⟩]) by decide] at hLT ⊢
  obtain ⟨hE6, O6, E6, hL6, hO6, hE6', -, -⟩ := hLT.open_
  have hX5 := hX4.trans hw5.ext
  have hX6 : Ext No w w6 := hX5.then hE6 fun k hk hd => by have := hn4 k (.inl hd); omega
  have hn6 : ∀ k, O6 k ∨ E6 k → w.heap.size ≤ k := fun k hk => by
    have := hX5.size
    rcases hk with hk | hk
    · rcases hO6 k hk with h | h
      · exact hn4 k (.inl h)
      · omega
    · rcases hE6' k hk with h | h
      · exact hn4 k (.inr h)
      · omega
  refine GL.of_JL (C := Cls w6 No []) (Cls.start _ _) ?_
  repeat (first | (apply JL.y; (first | (apply Y_move; rfl) | (apply Y_assign; rfl)); rfl) | refine J.seq ?_ | refine J.region ?_ | refine JL.nil ?_)
  refine JL.call _ rfl rfl (fun w7 hw7 => laneTake_spec (hL6.ext0 hw7.ext)) fun w7 r w8 hw7 ⟨v8, hr, hF8, hLT⟩ => ?_
  subst hr
  rw [show takeR (St.srt Msg.lane [⟨[], 1, 0, 9, 1⟩, ⟨[], 0, 0, 9, 2⟩]) = (⟨[], 0, 0, 9, 2⟩, true, [⟨[], 1, 0, 9, 1⟩]) by decide] at hLT hF8 ⊢
  obtain ⟨hE8, O8, E8, hL8, hO8, hE8', -, -⟩ := hLT.open_
  have hX7 := hX6.trans hw7.ext
  have hX8 : Ext No w w8 := hX7.then hE8 fun k hk hd => by have := hn6 k (.inl hd); omega
  have hn8 : ∀ k, O8 k ∨ E8 k → w.heap.size ≤ k := fun k hk => by
    have := hX7.size
    rcases hk with hk | hk
    · rcases hO8 k hk with h | h
      · exact hn6 k (.inl h)
      · omega
    · rcases hE8' k hk with h | h
      · exact hn6 k (.inr h)
      · omega
  obtain ⟨ws8, rfl, hws8, _, ho8⟩ := RMsg.open_ hF8
  refine GL.of_JL (C := Cls w8 No []) (Cls.start _ _) ?_
  unfold msgC
  repeat (first | (apply JL.y; (first | (apply Y_move; rfl) | (apply Y_assign; rfl) | (apply Y_extract; rfl; rfl)); rfl) | refine J.seq ?_ | refine J.region ?_ | refine JL.nil ?_ | (apply JL.alloc; rfl; rfl; intro _) | (apply JL.store; (apply St_W 0; rfl; rfl; rfl; exact inferInstance; rfl; rfl; (first | (focus (simp [Value.oneCell']; done)) | (simp [Value.oneCell']; assumption) | (simp [Value.oneCell']; exact ⟨by assumption, by assumption⟩)); (first | (focus (simp only [List.set_cons_zero]; done)) | (simp only [List.set_cons_zero]; rfl)))))
  rename_i b4
  refine JL.call _ rfl rfl (fun w9 hw9 => lanePeek_spec (hL8.ext0 hw9.ext)) fun w9 r w10 hw9 ⟨hE10, v10, hr, hF10⟩ => ?_
  subst hr
  rw [show takeR (St.srt Msg.lane [⟨[], 1, 0, 9, 1⟩]) = (⟨[], 1, 0, 9, 1⟩, true, []) by decide] at hF10 ⊢
  obtain ⟨ws10, rfl, hws10, _, ho10⟩ := RMsg.open_ hF10
  refine GL.of_JL (C := Cls w8 No _) (hw9.ext0 hE10) ?_
  unfold msgC
  repeat (first | (apply JL.y; (first | (apply Y_move; rfl) | (apply Y_assign; rfl) | (apply Y_fieldAddr; rfl; rfl) | (apply Y_load1 0; rfl; rfl; rfl; exact inferInstance) | (apply Y_load1 1; rfl; rfl; rfl; exact inferInstance) | (apply Y_extract; rfl; rfl) | (apply Y_eql; rfl; rfl) | (apply Y_pick_t; rfl; rfl)); rfl) | refine J.seq ?_ | refine J.region ?_ | refine JL.nil ?_ | (apply JL.callq; rfl; rfl; (intro wc hwc; first | exact laneLen_spec (hL8.ext0 hwc.ext))) | (apply JL.alloc; rfl; rfl; intro _) | (apply JL.store; (apply St_W 0; rfl; rfl; rfl; exact inferInstance; rfl; rfl; (first | (focus (simp [Value.oneCell']; done)) | (simp [Value.oneCell']; assumption) | (simp [Value.oneCell']; exact ⟨by assumption, by assumption⟩)); (first | (focus (simp only [List.set_cons_zero]; done)) | (simp only [List.set_cons_zero]; rfl)))) | (apply JL.guard_yes; rfl; rfl; rfl))
  refine JL.call _ rfl rfl (fun w11 hw11 => laneSweep_spec (hL8.ext0 hw11.ext) 8) fun w11 r w12 hw11 ⟨zs, hO12, hr12, hz, hLT⟩ => ?_
  rw [show ((St.srt Msg.lane [⟨[], 1, 0, 9, 1⟩]).filter (late 8)) = [] by decide] at hz
  rw [show ((St.srt Msg.lane [⟨[], 1, 0, 9, 1⟩]).filter (fun m => !late 8 m)) = [⟨[], 1, 0, 9, 1⟩] by decide] at hLT
  obtain ⟨hE12, O12, E12, hL12, hO12', hE12', -, -⟩ := hLT.open_
  have hX11 := hX8.trans hw11.ext
  have hX12 : Ext No w w12 := hX11.then hE12 fun k hk hd => by have := hn8 k (.inl hd); omega
  obtain ⟨A, c, hr, _⟩ := hO12.slice
  have hzl : zs.length = 0 := by simpa using congrArg List.length hz
  subst hr
  rw [hzl]
  refine GL.of_JL (C := Cls w12 No []) (Cls.start _ _) ?_
  repeat (first | (apply JL.y; (first | (apply Y_move; rfl) | (apply Y_len; rfl) | (apply Y_eql; rfl; rfl) | (apply Y_pick_t; rfl; rfl)); rfl) | (apply JL.guard_yes; rfl; rfl; rfl))
  refine JL.call _ rfl rfl (fun w13 hw13 => laneSweep_spec (hL12.ext0 hw13.ext) 9) fun w13 r w14 hw13 ⟨zs, hO14, hr14, hz, hLT⟩ => ?_
  rw [show ((St.srt Msg.lane [⟨[], 1, 0, 9, 1⟩]).filter (late 9)) = [⟨[], 1, 0, 9, 1⟩] by decide] at hz
  have hn12 : ∀ k, O12 k → w.heap.size ≤ k := fun k hk => by
    have := hX11.size
    rcases hO12' k hk with h | h
    · exact hn8 k (.inl h)
    · omega
  have hE14 := hLT.1
  have hX14 : Ext No w w14 := (hX12.trans hw13.ext).then hE14 fun k hk hd => by have := hn12 k hd; omega
  obtain ⟨A, c, hr, _⟩ := hO14.slice
  have hzl : zs.length = 1 := by simpa using congrArg List.length hz
  subst hr
  rw [hzl]
  refine GL.of_JL (C := Cls w14 No []) (Cls.start _ _) ?_
  repeat (first | (apply JL.y; (first | (apply Y_assign; rfl) | (apply Y_len; rfl) | (apply Y_eql; rfl; rfl) | (apply Y_pick_t; rfl; rfl)); rfl) | refine JL.nil ?_ | (apply JL.guard_yes; rfl; rfl; rfl))
  exact J.ret1 Try.func24 Try.results24 (RV.tm rfl) fun w' hw' => ⟨rfl, hX14.trans hw'.ext⟩
end Go.Proofs.Ytmkpbbdocndfbaa
