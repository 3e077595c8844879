/- law 10: LaneOwns, the walk. -/
import Derived.Test.YtmkpbbdocndfbaaMore
namespace Go.Proofs.Ytmkpbbdocndfbaa
open Go.RowKit Go.Proofs
attribute [local irreducible] Yl JL J G GL GA GQ DR

set_option maxHeartbeats 2000000 in
theorem laneOwns10_walk {w : World} {ws : Value} {m : Msg} (h : Foot (fun w => RInts w ws m.words) w All) :
    Calls Try.prog 4 #[.agg (msgC ws m).toArray] w fun e w' => e = .returned (.bool true) ∧ Ext No w w' := by
  obtain ⟨A, c, rfl, hc, hm⟩ := h.now.slice
  refine Calls.of_G1 Try.func4 rfl Try.ntmps4 rfl ?_
  refine J.at (C := Cls w No []) ?_ (Cls.start _ _)
  unfold msgC
  repeat (first | (apply JL.y; (first | (apply Y_assign; rfl) | (apply Y_not; rfl)); rfl) | refine J.seq ?_ | refine J.region ?_ | refine JL.nil ?_ | (apply JL.callq; rfl; rfl; (intro wc hwc; first | exact lives10_spec _)) | (apply JL.box; rfl; rfl; rfl; intro _))
  apply J.cond_f rfl
  repeat (first | (apply JL.y; (first | (apply Y_fieldAddr; rfl; rfl) | (apply Y_load1 0; rfl; rfl; rfl; exact inferInstance) | (apply Y_len; rfl) | (apply Y_min; rfl; rfl)); rfl) | refine J.seq ?_ | refine J.region ?_ | refine J.skip ?_)
  apply JL.y (Y_slice_h rfl rfl (by omega)) rfl
  have hmin : (min (m.words.length : Int) 8).toNat = (m.words.take 8).length := by rw [List.length_take]; omega
  rw [hmin]
  repeat (first | (apply JL.y; (first | (apply Y_fieldAddr; rfl; rfl) | (apply Y_loadW 0; rfl; rfl; exact inferInstance; rfl)); rfl) | refine J.seq ?_ | refine J.region ?_ | refine JL.nil ?_ | (apply JL.store; (apply St_1 0; rfl; rfl; exact inferInstance; (first | rfl | assumption); rfl; rfl; (first | (focus (simp only [List.set_cons_zero]; done)) | (simp only [List.set_cons_zero]; rfl)))))
  rename_i b1
  obtain ⟨m0, hm0⟩ : ∃ m0 : Msg, m0 = ⟨m.words.take 8, 0, m.stamp, m.late, m.seq⟩ := ⟨_, rfl⟩
  have hl8 : m0.words.length ≤ 8 := by rw [hm0]; simp; omega
  have hlane : m0.lane = 0 := by rw [hm0]
  have hws : Foot (fun w => RInts w (.slice A (m.words.take 8).length c) m0.words) w All := by
    refine h.imp fun w hw => ?_
    have h1 := RRow.take hw (i := (m.words.take 8).length) (by rw [ints_len, List.length_take]; omega)
    unfold RInts
    have h2 : ints m0.words = (ints m.words).take (m.words.take 8).length := by
      rw [hm0]
      simp only [ints, List.map_take, List.length_take]
      rcases Nat.le_total 8 m.words.length with h8 | h8
      · rw [Nat.min_eq_left h8]
      · rw [Nat.min_eq_right h8, List.take_of_length_le (by simpa using h8), List.take_of_length_le (by simp)]
    rw [h2]; exact h1
  rw [show (([Value.slice A m.words.length c, .int .i64 m.lane, .int .i64 m.stamp, .int .i64 m.late, .int .i64 m.seq] : List Value).set (0 + 0) (.slice A (m.words.take 8).length c)).set (0 + 1) (.int .i64 0) = msgC (.slice A (m.words.take 8).length c) m0 by rw [hm0]; rfl]
  obtain ⟨wa, hwa⟩ : ∃ wa, wa = Value.slice A (m.words.take 8).length c := ⟨_, rfl⟩
  rw [← hwa] at hws ⊢
  clear hwa h hm hc hmin hm0
  -- the first copy
  refine JL.call _ rfl rfl (fun w1 hw1 => clone_spec (RMsg.mk (hws.ext0 hw1.ext) hl8)) fun w1 r w2 hw1 ⟨wb, hr, hE2, hFb, hob, _, _, _⟩ => ?_
  subst hr
  have hX2 : Ext No w w2 := (hw1.ext0 hE2).ext
  have s1 := hw1.ext.size
  have s2 := hE2.size
  have hB1 := (hw1.ext0 hE2).has _ (.head _)
  have b1l : w.heap.size ≤ b1 := hw1.fresh fun _ h => h.elim
  have b1u := (hw1.has _ (.head _)).lt
  simp only at b1u
  have hFb := (hFb.mono (ok' := fun k => w1.heap.size ≤ k ∧ k < w2.heap.size) fun k hk h => ⟨h, hk⟩)
  refine GL.of_JL (C := Cls w2 (fun k => k = b1) [_]) (Cls.start1 hB1) ?_
  unfold msgC
  repeat (first | (apply JL.y; (apply Y_loadW 1; rfl; rfl; exact inferInstance; rfl); rfl) | refine J.seq ?_ | refine J.region ?_ | refine JL.nil ?_ | (apply JL.alloc; rfl; rfl; intro _) | (apply JL.store; (apply St_W 0; rfl; rfl; rfl; exact inferInstance; rfl; rfl; (first | (focus (simp [Value.oneCell']; done)) | (simp [Value.oneCell']; assumption) | (simp [Value.oneCell']; exact ⟨by assumption, by assumption⟩)); (first | (focus (simp only [List.set_cons_zero]; done)) | (simp only [List.set_cons_zero]; rfl)))))
  rename_i b3
  -- the second copy
  refine JL.call _ rfl rfl (fun w3 hw3 => clone_spec (RMsg.mk (m := m0) (hws.ext0 (hX2.then hw3.ext fun k hk h => by omega)) hl8)) fun w3 r w4 hw3 ⟨wi, hr, hE4, _, hoi, _, hRi, hni⟩ => ?_
  subst hr
  obtain ⟨Ai, ci, hwi, hci, hmi⟩ := hRi.slice
  rw [ints_len] at hwi hci
  subst hwi
  have s3 := hw3.ext.size
  have s4 := hE4.size
  have b3l : w2.heap.size ≤ b3 := hw3.fresh fun k h => ⟨_, .head _, h.symm⟩
  have b3u := (hw3.has _ (.head _)).lt
  simp only at b3u
  have hX4 : Ext No w w4 := (hX2.then hw3.ext fun k hk h => by omega).trans hE4
  have hB3 := (hw3.ext0 hE4).has _ (.head _)
  have hB1 := (hw3.ext0 hE4).has _ (.tail _ (.head _))
  have hFb := (hFb.ext hw3.ext fun k hk h h' => by omega).ext0 hE4
  have hiu : ∀ k, (Value.slice Ai m0.words.length ci).ownBlock = some k → w3.heap.size ≤ k ∧ k < w4.heap.size := fun k hk => ⟨hni k hk, hRi.lt hk⟩
  refine GL.of_JL (C := Cls w4 (fun k => k = b3 ∨ k = b1) [_, _]) (Cls.start2 hB3 hB1 (by simp only; omega)) ?_
  unfold msgC
  repeat (first | refine J.seq ?_ | refine J.region ?_ | refine JL.nil ?_ | (apply JL.alloc; rfl; rfl; intro _) | (apply JL.store; (apply St_W 0; rfl; rfl; rfl; exact inferInstance; rfl; rfl; (first | (focus (simp [Value.oneCell']; done)) | (simp [Value.oneCell']; assumption) | (simp [Value.oneCell']; exact ⟨by assumption, by assumption⟩)); (first | (focus (simp only [List.set_cons_zero]; done)) | (simp only [List.set_cons_zero]; rfl)))))
  rename_i b4
  -- lanes
  refine JL.call _ rfl rfl (fun w5 hw5 => laneNew_spec) fun w5 r w6 hw5 ⟨g, hr, hE6, hg, hL⟩ => ?_
  subst hr
  rw [show cl 1 3 1 = 1 by decide, show cl 1 8 4 = 4 by decide] at hL
  have s5 := hw5.ext.size
  have s6 := hE6.size
  have b4l : w4.heap.size ≤ b4 := hw5.fresh fun k h => h.elim (fun h => ⟨_, .head _, h.symm⟩) fun h => ⟨_, .tail _ (.head _), h.symm⟩
  have b4u := (hw5.has _ (.head _)).lt
  simp only at b4u
  have hX6 : Ext No w w6 := (hX4.then hw5.ext fun k hk h => by omega).trans hE6
  have hC6 := hw5.ext0 hE6
  have hB4 := hC6.has _ (.head _)
  have hB3 := hC6.has _ (.tail _ (.head _))
  have hB1 := hC6.has _ (.tail _ (.tail _ (.head _)))
  have hFb := (hFb.ext hw5.ext fun k hk h h' => by omega).ext0 hE6
  have hRi := (hRi.ext hw5.ext fun k hk h' => by have := hiu k hk; omega).ext0 hE6
  refine GL.of_JL (C := Cls w6 (fun k => k = b4 ∨ k = b3 ∨ k = b1) [_, _, _]) (Cls.start3 hB4 hB3 hB1 (by simp only; omega) (by simp only; omega) (by simp only; omega)) ?_
  repeat (first | (apply JL.y; (first | (apply Y_move; rfl) | (apply Y_assign; rfl) | (apply Y_loadW 0; rfl; rfl; exact inferInstance; rfl)); rfl) | refine J.seq ?_ | refine J.region ?_ | refine JL.nil ?_)
  -- Put
  have hlt := hL.lt
  refine JL.call _ rfl rfl (fun w7 hw7 => lanePut_spec (hL.ext hw7.ext fun k hk h => by have := hlt k hk; rcases hk with rfl | hk; omega; exact hk) (RMsg.mk (m := m0) ((hRi.ints_foot (xs := m0.words)).ext hw7.ext fun k hk h h' => by have := hiu k h; omega) hl8)) fun w7 r w8 hw7 ⟨hr, hLT⟩ => ?_
  have hp : putR 1 4 [] m0 = (0, [m0]) := by simp [putR, room, cnt, hlane]
  rw [hp] at hLT
  obtain ⟨hE8, O, E, hL8, hO, hE, -, -⟩ := hLT.open_
  have s7 := hw7.ext.size
  have s8 := hE8.size
  have hOE : ∀ k, O k ∨ E k → w5.heap.size ≤ k ∧ k < w8.heap.size := fun k hk => by
    have h2 := hL8.lt k hk
    rcases hk with hk | hk
    · rcases hO k hk with h | h <;> omega
    · rcases hE k hk with h | h
      · exact h.elim
      · omega
  have hb4g : b4 ≠ g := by omega
  have hX8 : Ext No w w8 := (hX6.then hw7.ext fun k hk h => by omega).then hE8 fun k hk h => by omega
  have hB4 := (hw7.has _ (.head _)).keep hE8 (by simp only; omega)
  have hB3 := (hw7.has _ (.tail _ (.head _))).keep hE8 (by simp only; omega)
  have hB1 := (hw7.has _ (.tail _ (.tail _ (.head _)))).keep hE8 (by simp only; omega)
  have hFb := (hFb.ext hw7.ext fun k hk h h' => by omega).ext hE8 fun k hk h h' => by omega
  have hRi := (hRi.ext hw7.ext fun k hk h' => by have := hiu k hk; omega).ext hE8 fun k hk h' => by have := hiu k hk; omega
  refine GL.of_JL (C := Cls w8 No []) (Cls.start _ _) ?_
  repeat (first | (apply JL.y; (apply Y_move; rfl); rfl) | refine J.seq ?_ | refine J.region ?_ | refine JL.nil ?_)
  -- All
  refine JL.call _ rfl rfl (fun w9 hw9 => laneAllN_spec (hL8.ext0 hw9.ext)) fun w9 r w10 hw9 ⟨hE10, zs, hN, hz⟩ => ?_
  obtain ⟨z, rfl, hz2⟩ : ∃ z, zs = [z] ∧ z.2 = m0 := by
    match zs, hz with
    | [z], hz => exact ⟨z, rfl, by simpa [St.srt, St.ins] using hz⟩
  obtain ⟨wz, hzc, hFz, _⟩ := MsgN.open_ (hN.own.el z (.head _))
  rw [hz2] at hFz hzc
  have hRow := hN.own.row
  obtain ⟨gr, cap, _, hrv, _, _, hcap, _⟩ := hRow.block (by simp)
  simp only [List.map_cons, List.map_nil, List.length_cons, List.length_nil, Nat.zero_add] at hrv hRow
  subst hrv
  rw [hzc] at hRow
  have hgr : w9.heap.size ≤ gr := hN.new gr rfl
  obtain ⟨Az, cz, hwz, hcz, hmz⟩ := hFz.now.slice
  rw [ints_len] at hwz hcz
  subst hwz
  have s9 := hw9.ext.size
  have s10 := hE10.size
  have hzu : ∀ k, 0 < m0.words.length → (Value.slice Az m0.words.length cz).ownBlock = some k → w9.heap.size ≤ k ∧ k ≠ gr := fun k h0 hk => by
    have := Foot.row_in hFz (by rwa [ints_len]) (by omega) hk
    exact ⟨this.1, fun h => this.2 (by rw [h]; rfl)⟩
  have hE810 := hw9.ext.trans hE10
  have hX10 : Ext No w w10 := hX8.trans hE810
  have hB4 := hB4.ext0 hE810
  have hB3 := hB3.ext0 hE810
  have hB1 := hB1.ext0 hE810
  have hFb := hFb.ext0 hE810
  have hRi := hRi.ext0 hE810
  have hL10 := hL8.ext0 hE810
  have hRz := hFz.now
  refine GL.of_JL (C := Cls w10 No []) (Cls.start _ _) ?_
  repeat (first | (apply JL.y; (apply Y_assign; rfl); rfl) | refine J.seq ?_ | refine J.region ?_ | refine JL.nil ?_ | refine J.block ?_)
  -- the first loop
  refine J.intro fun wl hwl => G.loop (Inv := fun mm e wl => ∃ (i : Nat) (ys : List Int), ys.length = m0.words.length ∧ i ≤ ys.length ∧ mm = m0.words.length - i ∧ Row wl 3 1 (.slice Ai m0.words.length ci) (ints ys) ∧ Ext (fun k => (Value.slice Ai m0.words.length ci).ownBlock = some k) w10 wl ∧ e = [(1, .pointer (some ⟨b1, 0, none⟩)), (3, .pointer (some ⟨b3, 0, none⟩)), (4, .pointer (some ⟨b4, 0, none⟩)), (5, .pointer (some ⟨g, 0, none⟩)), (6, .slice (some ⟨gr, 0, none⟩) 1 cap), (7, .int .i64 i)])
    _ _ ⟨0, m0.words, rfl, Nat.zero_le _, rfl, hRi.ext0 hwl.ext, hwl.ext.no, rfl⟩ ⟨rfl, rfl, rfl, rfl, rfl, rfl, trivial⟩ ?_
  rintro mm e w11 ⟨i, ys, hyl, hi, rfl, hR, hE11, rfl⟩ ih
  have hB4' := hB4.keep hE11 fun h => by have := hiu _ h; simp only at this; omega
  refine J.at (C := Cls w11 (fun k => k = b4) [_]) ?_ (Cls.start1 hB4')
  repeat (first | (apply JL.y; (first | (apply Y_move; rfl) | (apply Y_fieldAddr; rfl; rfl) | (apply Y_load1 0; rfl; rfl; rfl; exact inferInstance) | (apply Y_len; rfl) | (apply Y_lss; rfl; rfl)); rfl) | refine J.seq ?_ | refine J.region ?_ | refine JL.nil ?_)
  refine J.cond_d rfl (fun hlt' => ?_) (fun hlt' => ?_)
  · have hil : i < ys.length := by omega
    obtain ⟨y, hy⟩ : ∃ y, ys[i]? = some y := ⟨_, List.getElem?_eq_getElem hil⟩
    obtain ⟨gi, cap', _, hgi, _⟩ := hR.block (by rw [ints_len]; omega)
    simp only [Value.slice.injEq] at hgi
    obtain ⟨rfl, _, rfl⟩ := hgi
    have hgiu := hiu gi rfl
    unfold maxLen at hmi
    repeat (first | (apply JL.y; (first | (apply Y_move; rfl) | (apply Y_fieldAddr; rfl; rfl) | (apply Y_load1 0; rfl; rfl; rfl; exact inferInstance)); rfl) | refine J.seq ?_ | refine J.region ?_ | refine J.skip ?_ | refine J.block ?_)
    apply JL.y (Y_indexAddr rfl rfl (by omega)) rfl
    rw [add_lit]
    have hst : ∀ w', Cls w11 (fun k => k = b4) [_] w' → Ext No w11 w' := fun w' hw' => hw'.still fun k hk => ⟨_, .head _, hk.symm, hB4'⟩
    apply JL.y (Y_loadP rfl fun w' hw' => by simpa using (hR.ext0 (hst w' hw')).ldsInt hy) rfl
    apply JL.y (Y_addw rfl rfl) rfl
    apply JL.y (Y_indexAddr rfl rfl (by omega)) rfl
    rw [add_lit]
    apply JL.storeP (C' := fun w' => Row w' 3 1 (.slice (some ⟨gi, 0, none⟩) m0.words.length ci) (ints (ys.set i (IntKind.i64.wrap (y + 1)))) ∧ Ext (fun k => k = gi) w11 w') rfl rfl
    · intro w5 hw5
      obtain ⟨w6, h1, h2, h3⟩ := (hR.ext0 (hst w5 hw5)).setInt hil (IntKind.i64.wrap (y + 1))
      exact ⟨w6, by simpa using h1, h2, (hst w5 hw5).no.trans h3⟩
    refine JL.intro fun w12 ⟨hR12, hE12⟩ => ?_
    refine GL.of_JL (C := Cls w12 No []) (Cls.start _ _) ?_
    repeat (first | (apply JL.y; (first | (apply Y_move; rfl) | (apply Y_assign; rfl) | (apply Y_add; rfl; rfl; omega)); rfl) | refine J.region ?_ | refine JL.nil ?_ | refine J.inBlock ?_)
    refine J.intro fun w13 hw13 => ih (m0.words.length - (i + 1)) (by omega) _ _ w13 ?_ ⟨i + 1, _, by simpa using hyl, by simp; omega, rfl, hR12.ext0 hw13.ext, (hE11.then hE12 fun k hk h => by rw [h]; rfl).thenNo hw13.ext, rfl⟩
    exact ⟨rfl, rfl, rfl, rfl, rfl, rfl, trivial⟩
  -- the second loops
  repeat (first | (apply JL.y; (apply Y_assign; rfl); rfl) | refine J.seq ?_ | refine J.region ?_ | refine JL.nil ?_ | refine J.block ?_ | (apply J.exit; rfl))
  refine J.intro fun w12 hw12 => ?_
  have hE11 := hE11.thenNo (hw12.still fun k hk => ⟨_, .head _, hk.symm, hB4'⟩)
  have hB3 := hB3.keep hE11 fun h => by have := hiu _ h; simp only at this; omega
  have hB1 := hB1.keep hE11 fun h => by have := hiu _ h; simp only at this; omega
  have hFb := hFb.ext hE11 fun k hk h h' => by have := hiu k h'; omega
  have hL11 := hL10.ext hE11 fun k hk h' => by have := hOE k hk; have := hiu k h'; omega
  have hRz : 0 < m0.words.length → Row w12 3 1 (.slice Az m0.words.length cz) (ints m0.words) := fun h0 => hRz.ext hE11 fun k hk h' => by have := hiu k h'; have := hzu k h0 hk; omega
  have hRow := hRow.ext hE11 fun k hk h' => by have := hiu k h'; simp [Value.ownBlock] at hk; omega
  have hX11 : Ext No w w12 := hX10.then hE11 fun k hk h => by have := hiu k h; omega
  have s11 := hE11.size
  refine J.at (C := Cls w12 No []) ?_ (Cls.start _ _)
  apply J.loop1
  repeat (first | (apply JL.y; (first | (apply Y_move; rfl) | (apply Y_len; rfl) | (apply Y_lss; rfl; rfl)); rfl) | refine J.seq ?_ | refine J.region ?_ | refine JL.nil ?_)
  refine J.cond_d rfl (fun _ => ?_) (fun h => absurd (show (0 : Int) < ((1 : Nat) : Int) by decide) h)
  repeat (first | (apply JL.y; (apply Y_assign; rfl); rfl) | refine J.seq ?_ | refine J.region ?_ | refine JL.nil ?_ | refine J.skip ?_ | refine J.block ?_)
  refine J.intro fun wl hwl => G.loop (Inv := fun mm e wl => ∃ (i : Nat) (ys : List Int), ys.length = m0.words.length ∧ i ≤ ys.length ∧ mm = m0.words.length - i ∧ (0 < m0.words.length → Row wl 3 1 (.slice Az m0.words.length cz) (ints ys)) ∧ Ext (fun k => 0 < m0.words.length ∧ (Value.slice Az m0.words.length cz).ownBlock = some k) w12 wl ∧ e = [(1, .pointer (some ⟨b1, 0, none⟩)), (3, .pointer (some ⟨b3, 0, none⟩)), (5, .pointer (some ⟨g, 0, none⟩)), (6, .slice (some ⟨gr, 0, none⟩) 1 cap), (8, .int .i64 0), (9, .int .i64 i)])
    _ _ ⟨0, m0.words, rfl, Nat.zero_le _, rfl, fun h0 => (hRz h0).ext0 hwl.ext, hwl.ext.no, rfl⟩ ⟨rfl, rfl, rfl, rfl, rfl, rfl, trivial⟩ ?_
  rintro mm e w13 ⟨i, ys, hyl, hi, rfl, hR, hE13, rfl⟩ ih
  have hRow := hRow.ext hE13 fun k hk h' => by have := hzu k h'.1 h'.2; simp [Value.ownBlock] at hk; omega
  have lw : ∀ w', Ext No w13 w' → Lds Try.prog 31 ⟨gr, 0, none⟩ (.slice Az m0.words.length cz) w' := fun w' he => by
    obtain ⟨g', cap', hv, hc⟩ := Row.cell (hRow.ext0 he) (i := 0) (j := 0) rfl rfl
    cases hv
    exact lds_one (by simpa using hc)
  refine J.at (C := Cls w13 No []) ?_ (Cls.start _ _)
  repeat (first | (apply JL.y; (apply Y_move; rfl); rfl) | refine J.seq ?_ | refine J.region ?_)
  apply JL.y (Y_indexAddr rfl rfl (by omega)) rfl
  rw [add_lit]
  repeat (first | (apply JL.y; (first | (apply Y_fieldAddr; rfl; rfl) | (apply Y_loadP; rfl; (intro wc hwc; first | exact lw _ hwc.ext)) | (apply Y_len; rfl) | (apply Y_lss; rfl; rfl)); rfl) | refine JL.nil ?_)
  refine J.cond_d rfl (fun hlt' => ?_) (fun hlt' => ?_)
  · have hil : i < ys.length := by omega
    have hR' := hR (by omega)
    obtain ⟨y, hy⟩ : ∃ y, ys[i]? = some y := ⟨_, List.getElem?_eq_getElem hil⟩
    obtain ⟨gi, cap', _, hgi, _⟩ := hR'.block (by rw [ints_len]; omega)
    simp only [Value.slice.injEq] at hgi
    obtain ⟨rfl, _, rfl⟩ := hgi
    unfold maxLen at hmz
    repeat (first | (apply JL.y; (apply Y_move; rfl); rfl) | refine J.seq ?_ | refine J.region ?_ | refine J.skip ?_ | refine J.block ?_)
    apply JL.y (Y_indexAddr rfl rfl (by omega)) rfl
    rw [add_lit]
    repeat (first | (apply JL.y; (first | (apply Y_move; rfl) | (apply Y_fieldAddr; rfl; rfl) | (apply Y_loadP; rfl; (intro wc hwc; first | exact lw _ hwc.ext))); rfl))
    apply JL.y (Y_indexAddr rfl rfl (by omega)) rfl
    rw [add_lit]
    apply JL.y (Y_loadP rfl fun w' hw' => by simpa using (hR'.ext0 hw'.ext).ldsInt hy) rfl
    apply JL.y (Y_addw rfl rfl) rfl
    apply JL.y (Y_indexAddr rfl rfl (by omega)) rfl
    rw [add_lit]
    apply JL.storeP (C' := fun w' => Row w' 3 1 (.slice (some ⟨gi, 0, none⟩) m0.words.length cz) (ints (ys.set i (IntKind.i64.wrap (y + 1)))) ∧ Ext (fun k => k = gi) w13 w') rfl rfl
    · intro w5 hw5
      obtain ⟨w6, h1, h2, h3⟩ := (hR'.ext0 hw5.ext).setInt hil (IntKind.i64.wrap (y + 1))
      exact ⟨w6, by simpa using h1, h2, hw5.ext.no.trans h3⟩
    refine JL.intro fun w14 ⟨hR14, hE14⟩ => ?_
    refine GL.of_JL (C := Cls w14 No []) (Cls.start _ _) ?_
    repeat (first | (apply JL.y; (first | (apply Y_move; rfl) | (apply Y_assign; rfl) | (apply Y_add; rfl; rfl; omega)); rfl) | refine J.region ?_ | refine JL.nil ?_ | refine J.inBlock ?_)
    refine J.intro fun w15 hw15 => ih (m0.words.length - (i + 1)) (by omega) _ _ w15 ?_ ⟨i + 1, _, by simpa using hyl, by simp; omega, rfl, fun _ => hR14.ext0 hw15.ext, (hE13.then hE14 fun k hk h => by rw [h]; exact ⟨by omega, rfl⟩).thenNo hw15.ext, rfl⟩
    exact ⟨rfl, rfl, rfl, rfl, rfl, rfl, trivial⟩
  repeat (first | (apply JL.y; (first | (apply Y_move; rfl) | (apply Y_assign; rfl) | (apply Y_add; rfl; rfl; omega)); rfl) | refine J.region ?_ | refine JL.nil ?_ | refine J.inBlock ?_ | (apply J.exit; rfl))
  apply J.inLoop1
  repeat (first | (apply JL.y; (first | (apply Y_move; rfl) | (apply Y_len; rfl) | (apply Y_lss; rfl; rfl)); rfl) | refine J.seq ?_ | refine J.region ?_ | refine JL.nil ?_)
  refine J.cond_d rfl (fun h => absurd (show ¬ ((0 : Int) + 1 < ((1 : Nat) : Int)) by decide) (fun h' => h' h)) (fun _ => ?_)
  repeat (first | (apply JL.y; (apply Y_move; rfl); rfl) | refine J.seq ?_ | refine J.region ?_ | (apply J.exit; rfl))
  -- what is left
  have hB3 := hB3.keep hE13 fun h => by have := hzu _ h.1 h.2; simp only at this; omega
  have hB1 := hB1.keep hE13 fun h => by have := hzu _ h.1 h.2; simp only at this; omega
  have hFb := hFb.ext hE13 fun k hk h h' => by have := hzu k h'.1 h'.2; omega
  have hL13 := hL11.ext hE13 fun k hk h' => by have := hOE k hk; have := hzu k h'.1 h'.2; omega
  have hX13 : Ext No w w13 := hX11.then hE13 fun k hk h => by have := hzu k h.1 h.2; omega
  have s13 := hE13.size
  refine JL.call _ rfl rfl (fun w14 hw14 => laneTake_spec (hL13.ext0 hw14.ext)) fun w14 r w15 hw14 ⟨v15, hr, hF15, hLT⟩ => ?_
  subst hr
  rw [show takeR (St.srt Msg.lane (0, [m0]).2) = (m0, true, []) from rfl] at hLT hF15 ⊢
  obtain ⟨ws15, rfl, hFw, _, ho15⟩ := RMsg.open_ hF15
  have hE15 := hLT.1
  have s14 := hw14.ext.size
  have s15 := hE15.size
  have hX15 : Ext No w w15 := (hX13.trans hw14.ext).then hE15 fun k hk h => by have := hOE k (.inl h); omega
  have hB3 := (hB3.ext0 hw14.ext).keep hE15 fun h => by have := hOE _ (.inl h); simp only at this; omega
  have hB1 := (hB1.ext0 hw14.ext).keep hE15 fun h => by have := hOE _ (.inl h); simp only at this; omega
  have hFb := (hFb.ext0 hw14.ext).ext hE15 fun k hk h h' => by have := hOE k (.inl h'); omega
  have hFa := hws.ext0 hX15
  have st : ∀ {H' : List Blk} {w' : World}, Cls w15 (fun k => k = b3 ∨ k = b1) H' w' → (⟨b3, msgC wb m0, 33⟩ : Blk) ∈ H' → (⟨b1, msgC wa m0, 33⟩ : Blk) ∈ H' → Ext No w15 w' := fun h h1 h2 =>
    h.still fun k hk => hk.elim (fun hk => ⟨_, h1, hk.symm, hB3⟩) fun hk => ⟨_, h2, hk.symm, hB1⟩
  refine GL.of_JL (C := Cls w15 (fun k => k = b3 ∨ k = b1) [_, _]) (Cls.start2 hB3 hB1 (by simp only; omega)) ?_
  unfold msgC
  unfold msgC at st
  repeat (first | (apply JL.y; (first | (apply Y_move; rfl) | (apply Y_assign; rfl) | (apply Y_loadW 0; rfl; rfl; exact inferInstance; rfl) | (apply Y_loadW 1; rfl; rfl; exact inferInstance; rfl) | (apply Y_loadW 2; rfl; rfl; exact inferInstance; rfl) | (apply Y_extract; rfl; rfl) | (apply Y_pick_t; rfl; rfl)); rfl) | refine J.seq ?_ | refine J.region ?_ | refine JL.nil ?_ | (apply JL.callq; rfl; rfl; (intro wc hwc; first | exact one_true (m := m0) (RMsg.mk (hFw.ext0 (st hwc (by simp) (by simp))) hl8) (RMsg.mk (hFb.ext0 (st hwc (by simp) (by simp))) hl8) | exact one_true (m := m0) (RMsg.mk (hFa.ext0 (st hwc (by simp) (by simp))) hl8) (RMsg.mk (hFb.ext0 (st hwc (by simp) (by simp))) hl8) | exact laneSame_true (Rd.of_blk1 (m := m0) (hwc.has _ (.tail _ (.head _))) (hFw.ext0 (st hwc (by simp) (by simp))) hl8) (Rd.of_blk1 (m := m0) (hwc.has _ (.head _)) (hFb.ext0 (st hwc (by simp) (by simp))) hl8) rfl)) | (apply JL.alloc; rfl; rfl; intro _) | (apply JL.bslice1; rfl; rfl; rfl; rfl; rfl; rfl; intro _) | (apply JL.store; (apply St_W 0; rfl; rfl; rfl; exact inferInstance; rfl; rfl; (first | (focus (simp [Value.oneCell']; done)) | (simp [Value.oneCell']; assumption) | (simp [Value.oneCell']; exact ⟨by assumption, by assumption⟩)); (first | (focus (simp only [List.set_cons_zero]; done)) | (simp only [List.set_cons_zero]; rfl)))) | (apply JL.guard_yes; rfl; rfl; rfl))
  exact J.ret1 Try.func4 Try.results4 (RV.tm rfl) fun w' hw' => ⟨rfl, hX15.trans (st hw' (by simp) (by simp))⟩
end Go.Proofs.Ytmkpbbdocndfbaa
