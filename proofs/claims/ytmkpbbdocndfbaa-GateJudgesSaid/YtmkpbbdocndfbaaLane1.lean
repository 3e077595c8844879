/- lane: the object, and what only reads it. -/
import Derived.Test.YtmkpbbdocndfbaaSorted
namespace Go.Proofs.Ytmkpbbdocndfbaa
open Go.RowKit Go.Proofs
attribute [local irreducible] Yl JL J G GL GA GQ DR

theorem Cls.start1 {x : Blk} {w : World} (h : BlkIn w x) : Cls w (fun k => k = x.b) [x] w := ⟨.refl _ _, by simpa using h, ⟨by simp, trivial⟩, by simp⟩
theorem BlkIn.foot {x : Blk} {w : World} (h : BlkIn w x) : Foot (fun w => BlkIn w x) w (fun k => k = x.b) := fun _ hw => (hw x.b rfl h.lt).trans h
theorem BlkIn.keep {x : Blk} {w w1 : World} {D : Nat → Prop} (h : BlkIn w x) (he : Ext D w w1) (hd : ¬ D x.b) : BlkIn w1 x := (he.block _ h.lt hd).trans h

/-- The document's numbers, from the words of the code. -/
def cl (lo hi x : Int) : Int := min (max x lo) hi

/-- Lanes at g: O what is written, E what is read only. -/
structure LObj (w : World) (g : Nat) (O E : Nat → Prop) (ln pl : Int) (ms : List Msg) : Prop where
  ex : ∃ sl zs, BlkIn w ⟨g, [.int .i64 ln, .int .i64 pl, sl], 139⟩ ∧ (∀ k, sl.ownBlock = some k → O k ∧ k ≠ g) ∧ Own 33 5 MsgC w E sl zs ∧ zs.map (·.2) = ms
  og : O g
  oe : ∀ k, O k → ¬ E k
  lt : ∀ k, O k ∨ E k → k < w.heap.size
  hln : 1 ≤ ln ∧ ln ≤ 3
  hpl : 1 ≤ pl ∧ pl ≤ 8
  wf : ∀ m ∈ ms, 0 ≤ m.lane ∧ m.lane < ln
  few : ∀ k : Int, ((ms.filter fun m => m.lane == k).length : Int) ≤ pl

theorem LObj.ext {w w1 : World} {g : Nat} {O E D : Nat → Prop} {ln pl : Int} {ms : List Msg} (h : LObj w g O E ln pl ms) (he : Ext D w w1) (hd : ∀ k, O k ∨ E k → ¬ D k) : LObj w1 g O E ln pl ms := by
  obtain ⟨sl, zs, hb, ho, hw, hz⟩ := h.ex
  exact ⟨⟨sl, zs, hb.keep he (hd g (.inl h.og)), ho, hw.ext he (fun k hk => hd k (.inl (ho k hk).1)) (fun k _ hk => hd k (.inr hk)), hz⟩, h.og, h.oe, fun k hk => Nat.lt_of_lt_of_le (h.lt k hk) he.size, h.hln, h.hpl, h.wf, h.few⟩
theorem LObj.ext0 {w w1 : World} {g : Nat} {O E : Nat → Prop} {ln pl : Int} {ms : List Msg} (h : LObj w g O E ln pl ms) (he : Ext No w w1) : LObj w1 g O E ln pl ms := h.ext he fun _ _ h => h
theorem filt_len {τ : Type} (p : τ → Bool) : ∀ l : List τ, l.length = (l.filter p).length + (l.filter fun x => !p x).length
  | [] => rfl
  | x :: r => by
    have := filt_len p r
    cases h : p x <;> simp [h] <;> omega
/-- There are at most 24. -/
theorem few_len : ∀ (n : Nat) (ms : List Msg) (pl : Int), (∀ m ∈ ms, 0 ≤ m.lane ∧ m.lane < n) → (∀ k : Int, ((ms.filter fun m => m.lane == k).length : Int) ≤ pl) → (ms.length : Int) ≤ n * pl := by
  intro n
  induction n with
  | zero => intro ms pl h _; cases ms with
    | nil => simp
    | cons m ms => have := h m (.head _); simp at this; omega
  | succ n ih =>
    intro ms pl h1 h2
    have h3 := ih (ms.filter fun m => !(m.lane == (n : Int))) pl (fun m hm => by
      have := h1 m (List.mem_filter.1 hm).1
      have h4 := (List.mem_filter.1 hm).2
      simp at h4; omega) (fun k => Int.le_trans (by
      have : ((ms.filter fun m => !(m.lane == (n : Int))).filter fun m => m.lane == k).length ≤ (ms.filter fun m => m.lane == k).length := (List.filter_sublist.filter _).length_le
      omega) (h2 k))
    have h4 := h2 n
    have h5 : ms.length = (ms.filter fun m => m.lane == (n : Int)).length + (ms.filter fun m => !(m.lane == (n : Int))).length := filt_len (fun m : Msg => m.lane == (n : Int)) ms
    have h6 : ((n + 1 : Nat) : Int) * pl = n * pl + pl := by rw [Int.natCast_add, Int.add_mul]; simp
    omega
theorem LObj.len {w : World} {g : Nat} {O E : Nat → Prop} {ln pl : Int} {ms : List Msg} (h : LObj w g O E ln pl ms) : ms.length ≤ 24 := by
  have h1 := few_len 3 ms pl (fun m hm => by have := h.wf m hm; have := h.hln; omega) h.few
  have h2 := h.hpl
  omega

/-- lane.New. -/
theorem laneNew_spec {w : World} {ln pl : Int} : Calls Try.prog 25 #[.int .i64 ln, .int .i64 pl] w fun e w' => ∃ r, e = .returned r ∧ ∃ g, r = .pointer (some ⟨g, 0, none⟩) ∧ Ext No w w' ∧ w.heap.size ≤ g ∧ LObj w' g (fun k => k = g) No (cl 1 3 ln) (cl 1 8 pl) [] := by
  refine Calls.of_G2 Try.func25 rfl Try.ntmps25 rfl ?_
  refine J.at (C := Cls w No []) ?_ (Cls.start _ _)
  repeat (first | (apply JL.y; (first | (apply Y_move; rfl) | (apply Y_assign; rfl) | (apply Y_min; rfl; rfl) | (apply Y_max; rfl; rfl) | (apply Y_build; rfl; exact inferInstance)); rfl) | refine J.seq ?_ | refine J.region ?_ | refine JL.nil ?_ | (apply JL.box; rfl; rfl; rfl; intro _))
  refine J.ret1 Try.func25 Try.results25 (RV.tm rfl) fun w' hw => ?_
  have hb := hw.has _ (.head _)
  refine ⟨_, rfl, _, rfl, hw.ext, (hw.mine _ (.head _)).resolve_left id, ⟨⟨_, [], hb, by simp [Value.ownBlock], Own.nil _ _ _ _ _, rfl⟩, rfl, fun _ _ h => h, fun k hk => ?_, ?_, ?_, by simp, ?_⟩⟩
  · rcases hk with rfl | hk
    · exact hb.lt
    · exact hk.elim
  · unfold cl; omega
  · unfold cl; omega
  · intro k; simp [cl]; omega
/-- lane.Len. -/
theorem laneLen_spec {w : World} {g : Nat} {O E : Nat → Prop} {ln pl : Int} {ms : List Msg} (h : LObj w g O E ln pl ms) : Calls Try.prog 40 #[.pointer (some ⟨g, 0, none⟩)] w fun e w' => e = .returned (.int .i64 ms.length) ∧ Ext No w w' := by
  obtain ⟨sl, zs, hb, ho, hw, rfl⟩ := h.ex
  obtain ⟨A, c, rfl, hc, hm⟩ := hw.slice
  have hl : Foot (Lds Try.prog 26 ⟨g, 2, none⟩ (.slice A zs.length c)) w (fun k => k = g) := hb.foot.imp fun w hb => Lds.one hb rfl
  refine Calls.of_G1 Try.func40 rfl Try.ntmps40 rfl ?_
  refine J.at (C := Cls w No []) ?_ (Cls.start _ _)
  repeat (first | (apply JL.y; (first | (apply Y_move; rfl) | (apply Y_assign; rfl) | (apply Y_pnil_f; rfl)); rfl) | refine J.seq ?_ | refine J.region ?_ | refine JL.nil ?_)
  apply J.cond_f rfl
  repeat (first | (apply JL.y; (first | (apply Y_move; rfl) | (apply Y_assign; rfl) | (apply Y_fieldAddr; rfl; rfl) | (apply Y_loadP; rfl; (intro wc hwc; first | exact hl.at_ hwc.ext fun _ _ _ h => h)) | (apply Y_nilCheck; rfl) | (apply Y_len; rfl)); rfl) | refine J.seq ?_ | refine J.region ?_ | refine JL.nil ?_ | refine J.skip ?_)
  exact J.ret1 Try.func40 Try.results40 (RV.tm rfl) fun w' hw' => ⟨by simp, hw'.ext⟩
/-- lane.is. -/
theorem laneIs_spec {w : World} {g : Nat} {O E : Nat → Prop} {ln pl : Int} {ms : List Msg} (h : LObj w g O E ln pl ms) (q : Int) : Calls Try.prog 104 #[.pointer (some ⟨g, 0, none⟩), .int .i64 q] w fun e w' => e = .returned (.bool (decide (0 ≤ q ∧ q < ln))) ∧ Ext No w w' := by
  obtain ⟨sl, zs, hb, ho, hw, rfl⟩ := h.ex
  have hl : Foot (Lds Try.prog 3 ⟨g, 0, none⟩ (.int .i64 ln)) w (fun k => k = g) := hb.foot.imp fun w hb => Lds.one hb rfl
  refine Calls.of_G2 Try.func104 rfl Try.ntmps104 rfl ?_
  refine J.at (C := Cls w No []) ?_ (Cls.start _ _)
  repeat (first | (apply JL.y; (first | (apply Y_move; rfl) | (apply Y_assign; rfl) | (apply Y_geq; rfl; rfl) | (apply Y_pnn_f; rfl) | (apply Y_pick_t; rfl; rfl)); rfl) | refine J.seq ?_ | refine J.region ?_ | refine JL.nil ?_ | (apply JL.guard_yes; rfl; rfl; rfl))
  by_cases h0 : 0 ≤ q
  · rw [decide_eq_true h0]
    repeat (first | (apply JL.y; (first | (apply Y_move; rfl) | (apply Y_assign; rfl) | (apply Y_fieldAddr; rfl; rfl) | (apply Y_loadP; rfl; (intro wc hwc; first | exact hl.at_ hwc.ext fun _ _ _ h => h)) | (apply Y_nilCheck; rfl) | (apply Y_lss; rfl; rfl) | (apply Y_pick_t; rfl; rfl)); rfl) | refine JL.nil ?_ | (apply JL.guard_yes; rfl; rfl; rfl))
    exact J.ret1 Try.func104 Try.results104 (RV.tm rfl) fun w' hw' => ⟨ret_bool (by simp [h0]), hw'.ext⟩
  · rw [decide_eq_false h0]
    repeat (first | (apply JL.y; (first | (apply Y_assign; rfl) | (apply Y_pick_f; rfl; rfl)); rfl) | refine JL.nil ?_ | (apply JL.guard_no; rfl; rfl; rfl; rfl; rfl))
    exact J.ret1 Try.func104 Try.results104 (RV.tm rfl) fun w' hw' => ⟨ret_bool (by simp [h0]), hw'.ext⟩
theorem srt_snd (zs : List (List Value × Msg)) : (St.srt skey zs).map (·.2) = St.srt Msg.lane (zs.map (·.2)) := St.srt_map (key := Msg.lane) (fun z : List Value × Msg => z.2) zs
/-- lane.All. -/
theorem laneAllN_spec {w : World} {g : Nat} {O E : Nat → Prop} {ln pl : Int} {ms : List Msg} (h : LObj w g O E ln pl ms) : Calls Try.prog 41 #[.pointer (some ⟨g, 0, none⟩)] w fun e w' => ∃ r, e = .returned r ∧ Ext No w w' ∧ ∃ zs, New 33 5 MsgN w w' r zs ∧ zs.map (·.2) = St.srt Msg.lane ms := by
  have hlen := h.len
  obtain ⟨sl, zs, hb, ho, hw, rfl⟩ := h.ex
  have hzl : zs.length ≤ 24 := by simpa using hlen
  have hl : Foot (Lds Try.prog 26 ⟨g, 2, none⟩ sl) w (fun k => k = g) := hb.foot.imp fun w hb => Lds.one hb rfl
  refine Calls.of_G1 Try.func41 rfl Try.ntmps41 rfl ?_
  refine J.at (C := Cls w No []) ?_ (Cls.start _ _)
  repeat (first | (apply JL.y; (first | (apply Y_move; rfl) | (apply Y_assign; rfl) | (apply Y_pnil_f; rfl)); rfl) | refine J.seq ?_ | refine J.region ?_ | refine JL.nil ?_)
  apply J.cond_f rfl
  repeat (first | (apply JL.y; (first | (apply Y_move; rfl) | (apply Y_fieldAddr; rfl; rfl) | (apply Y_loadP; rfl; (intro wc hwc; first | exact hl.at_ hwc.ext fun _ _ _ h => h)) | (apply Y_nilCheck; rfl)); rfl) | refine J.seq ?_ | refine J.region ?_ | refine J.skip ?_)
  refine JL.call _ rfl rfl (fun w1 hw1 => sorted_spec (hw.reads.ext0 hw1.ext) (by omega) keyAll) fun w1 r w2 hw1 ⟨hE, hO, hg⟩ => ?_
  refine GL.of_JL (C := Cls w2 No []) (Cls.start _ _) ?_
  skip
  refine JL.call _ rfl rfl (fun w3 hw3 => clonesN_spec (hO.reads.ext0 hw3.ext) (by rw [St.srt_len]; omega)) fun w3 r w4 hw3 ⟨hE4, zs4, hN, hz⟩ => ?_
  refine GL.of_JL (C := Cls w4 No []) (Cls.start _ _) ?_
  repeat (first | (apply JL.y; (apply Y_assign; rfl); rfl) | refine JL.nil ?_)
  have hE3 := (hw1.ext.trans hE).trans hw3.ext
  exact J.ret1 Try.func41 Try.results41 (RV.tm rfl) fun w' hw' => ⟨_, rfl, (hE3.trans hE4).trans hw'.ext, zs4, (hN.ext0 hw'.ext).elder hE3.size, by rw [hz, srt_snd]⟩
theorem laneAll_spec {w : World} {g : Nat} {O E : Nat → Prop} {ln pl : Int} {ms : List Msg} (h : LObj w g O E ln pl ms) : Calls Try.prog 41 #[.pointer (some ⟨g, 0, none⟩)] w fun e w' => ∃ r, e = .returned r ∧ Ext No w w' ∧ ∃ zs, New 33 5 MsgC w w' r zs ∧ zs.map (·.2) = St.srt Msg.lane ms :=
  (laneAllN_spec h).mono fun _ _ ⟨r, h1, h2, zs, h3, h4⟩ => ⟨r, h1, h2, zs, h3.imp fun _ _ _ h => h.c, h4⟩
end Go.Proofs.Ytmkpbbdocndfbaa
