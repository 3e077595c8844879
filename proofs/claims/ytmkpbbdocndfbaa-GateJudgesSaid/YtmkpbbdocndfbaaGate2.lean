/- The gate: New, Offer. -/
import Derived.Test.YtmkpbbdocndfbaaGate
namespace Go.Proofs.Ytmkpbbdocndfbaa
open Go.RowKit Go.Proofs
attribute [local irreducible] Yl JL J G GL GA GQ DR DRA

/-- What may have turned but is known to be as it was, has not turned. -/
theorem Cls.but {w0 w : World} {D D' : Nat → Prop} {H : List Blk} (h : Cls w0 D H w) (h0 : ∀ k, D k → D' k ∨ ∃ x ∈ H, x.b = k ∧ BlkIn w0 x) : Ext D' w0 w :=
  ⟨h.ext.os, h.ext.tape, h.ext.output, h.ext.size, fun k hk hn => by
    by_cases hd : D k
    · rcases h0 k hd with h1 | ⟨x, hx, rfl, h1⟩
      · exact absurd h1 hn
      · exact (h.has x hx).trans h1.symm
    · exact h.ext.block k hk hd⟩
/-- gate.New. -/
theorem gNew_spec (k : Ch) (W : World) : Calls Try.prog 53 #[.agg (chC k).toArray] W fun e w' => ∃ r, e = .returned r ∧ ∃ g gl gb, r = .pointer (some ⟨g, 0, none⟩) ∧ Ext No W w' ∧ GObj w' g gl gb (fun q => q = gl) No k [] (cl 1 64 k.cap) 0 0 ∧ W.heap.size ≤ g ∧ W.heap.size ≤ gl ∧ W.heap.size ≤ gb := by
  refine Calls.of_G1 Try.func53 rfl Try.ntmps53 rfl ?_
  refine J.at (C := Cls W No []) ?_ (Cls.start _ _)
  unfold chC
  repeat (first | (apply JL.y; (apply Y_assign; rfl); rfl) | refine J.seq ?_ | refine J.region ?_ | refine JL.nil ?_ | (apply JL.box; rfl; rfl; rfl; intro _))
  refine J.draw (S := Cls _ _ _) [] #[false, false, false, false, false, false, false, false, false, false, false, false, false, false] rfl rfl (fun w hw => hw.drew) (fun w hS => ?_)
  (apply DR.take 0 #[true, false, false, false, false, false, false, false, false, false, false, false, false, false]; rfl; kernel_rfl; (first | (apply Y_load1 0; rfl; rfl; rfl; exact inferInstance) | (apply Y_load1 1; rfl; rfl; rfl; exact inferInstance) | (apply Y_load1 2; rfl; rfl; rfl; exact inferInstance) | (apply Y_load1 3; rfl; rfl; rfl; exact inferInstance) | (apply Y_loadW 0; rfl; rfl; exact inferInstance; rfl) | (apply Y_loadW 1; rfl; rfl; exact inferInstance; rfl) | (apply Y_loadW 2; rfl; rfl; exact inferInstance; rfl) | (apply Y_loadW 3; rfl; rfl; exact inferInstance; rfl)); rfl; exact hS)
  (apply DR.pure 1 #[true, true, false, false, false, false, false, false, false, false, false, false, false, false]; rfl; kernel_rfl; (apply Y_fieldAddr; rfl; rfl); rfl)
  (apply DR.take 2 #[true, true, true, false, false, false, false, false, false, false, false, false, false, false]; rfl; kernel_rfl; (first | (apply Y_load1 0; rfl; rfl; rfl; exact inferInstance) | (apply Y_load1 1; rfl; rfl; rfl; exact inferInstance) | (apply Y_load1 2; rfl; rfl; rfl; exact inferInstance) | (apply Y_load1 3; rfl; rfl; rfl; exact inferInstance) | (apply Y_loadW 0; rfl; rfl; exact inferInstance; rfl) | (apply Y_loadW 1; rfl; rfl; exact inferInstance; rfl) | (apply Y_loadW 2; rfl; rfl; exact inferInstance; rfl) | (apply Y_loadW 3; rfl; rfl; exact inferInstance; rfl)); rfl; exact hS)
  (apply DR.pure 3 #[true, true, true, true, false, false, false, false, false, false, false, false, false, false]; rfl; kernel_rfl; (apply Y_fieldAddr; rfl; rfl); rfl)
  (apply DR.take 4 #[true, true, true, true, true, false, false, false, false, false, false, false, false, false]; rfl; kernel_rfl; (first | (apply Y_load1 0; rfl; rfl; rfl; exact inferInstance) | (apply Y_load1 1; rfl; rfl; rfl; exact inferInstance) | (apply Y_load1 2; rfl; rfl; rfl; exact inferInstance) | (apply Y_load1 3; rfl; rfl; rfl; exact inferInstance) | (apply Y_loadW 0; rfl; rfl; exact inferInstance; rfl) | (apply Y_loadW 1; rfl; rfl; exact inferInstance; rfl) | (apply Y_loadW 2; rfl; rfl; exact inferInstance; rfl) | (apply Y_loadW 3; rfl; rfl; exact inferInstance; rfl)); rfl; exact hS)
  (apply DR.pure 6 #[true, true, true, true, true, false, true, false, false, false, false, false, false, false]; rfl; kernel_rfl; (apply Y_fieldAddr; rfl; rfl); rfl)
  (apply DR.take 7 #[true, true, true, true, true, false, true, true, false, false, false, false, false, false]; rfl; kernel_rfl; (first | (apply Y_load1 0; rfl; rfl; rfl; exact inferInstance) | (apply Y_load1 1; rfl; rfl; rfl; exact inferInstance) | (apply Y_load1 2; rfl; rfl; rfl; exact inferInstance) | (apply Y_load1 3; rfl; rfl; rfl; exact inferInstance) | (apply Y_loadW 0; rfl; rfl; exact inferInstance; rfl) | (apply Y_loadW 1; rfl; rfl; exact inferInstance; rfl) | (apply Y_loadW 2; rfl; rfl; exact inferInstance; rfl) | (apply Y_loadW 3; rfl; rfl; exact inferInstance; rfl)); rfl; exact hS)
  (apply DR.pure 8 #[true, true, true, true, true, false, true, true, true, false, false, false, false, false]; rfl; kernel_rfl; (apply Y_fieldAddr; rfl; rfl); rfl)
  (apply DR.take 9 #[true, true, true, true, true, false, true, true, true, true, false, false, false, false]; rfl; kernel_rfl; (first | (apply Y_load1 0; rfl; rfl; rfl; exact inferInstance) | (apply Y_load1 1; rfl; rfl; rfl; exact inferInstance) | (apply Y_load1 2; rfl; rfl; rfl; exact inferInstance) | (apply Y_load1 3; rfl; rfl; rfl; exact inferInstance) | (apply Y_loadW 0; rfl; rfl; exact inferInstance; rfl) | (apply Y_loadW 1; rfl; rfl; exact inferInstance; rfl) | (apply Y_loadW 2; rfl; rfl; exact inferInstance; rfl) | (apply Y_loadW 3; rfl; rfl; exact inferInstance; rfl)); rfl; exact hS)
  refine DR.call 5 #[true, true, true, true, true, true, true, true, true, true, false, false, false, false] (fun v w' => ∃ gl, v = .pointer (some ⟨gl, 0, none⟩) ∧ Ext No _ w' ∧ W.heap.size ≤ gl ∧ LObj w' gl (fun q => q = gl) No (cl 1 3 k.lanes) (cl 1 8 k.depth) []) rfl (by kernel_rfl) rfl rfl rfl (laneNew_spec.mono fun e w' ⟨r, h1, gl, h2, h3, h4, h5⟩ => ⟨r, h1, gl, h2, h3, Nat.le_trans hS.ext.size h4, h5⟩) (fun v w' ⟨gl, h⟩ => hS.ext0 h.2.1) (fun v w1 ⟨gl, hv, hE1, hgl, hL1⟩ hS => ?_)
  subst hv
  refine DR.call 10 #[true, true, true, true, true, true, true, true, true, true, true, false, false, false] (fun v w' => ∃ gb, v = .pointer (some ⟨gb, 0, none⟩) ∧ Ext No w1 w' ∧ w1.heap.size ≤ gb ∧ BlkIn w' ⟨gb, bC (cl 0 64 k.rate) (cl 1 64 k.cap) (cl 1 64 k.cap) 0, 189⟩) rfl (by kernel_rfl) rfl rfl rfl ((bNew_spec _ _ _).mono fun e w' ⟨r, h1, gb, h2, h3, h4, h5⟩ => ⟨r, h1, gb, h2, h3, h4, h5⟩) (fun v w' ⟨gb, h⟩ => hS.ext0 h.2.1) (fun v w2 ⟨gb, hv, hE2, hgb, hB2⟩ hS => ?_)
  subst hv
  (apply DR.pure 11 #[true, true, true, true, true, true, true, true, true, true, true, true, false, false]; rfl; kernel_rfl; (apply Y_build; rfl; exact inferInstance); rfl)
  refine DR.box 12 #[true, true, true, true, true, true, true, true, true, true, true, true, true, false] rfl (by kernel_rfl) rfl rfl rfl rfl (Cls.start No w2) (fun w' hw' => hS.ext0 hw') (fun g w3 hC3 hS => ?_)
  (apply DR.pure 13 #[true, true, true, true, true, true, true, true, true, true, true, true, true, true]; rfl; kernel_rfl; (apply Y_assign; rfl); rfl)
  refine DR.done (by kernel_rfl) ?_
  refine J.at (C := Cls w3 No []) ?_ (Cls.start _ _)
  skip
  refine J.ret1 Try.func53 Try.results53 (RV.tm rfl) fun w' hw' => ?_
  have hE23 := hC3.ext
  have hL2 := hL1.ext0 hE2
  have s1 := hE2.size
  have s0 := hS.ext.size
  have hgn : w2.heap.size ≤ g := hC3.fresh fun _ h => h.elim
  have hlu := hL1.lt gl (.inl rfl)
  have hbu := hB2.lt
  simp only at hbu
  refine ⟨_, rfl, g, gl, gb, rfl, hS.ext.trans hw'.ext, GObj.ext0 ⟨hC3.has _ (.head _), hL2.ext0 hE23, hB2.ext0 hE23, ⟨by unfold cl; omega, by unfold cl; omega, by unfold cl; omega, by omega⟩, by omega, ⟨by omega, fun h => h⟩, ⟨by omega, fun h => h⟩⟩ hw'.ext, by omega, hgl, by omega⟩

/-- What Offer tells, and what it leaves. -/
structure OffR where
  m : Msg
  e : Int
  ms : List Msg
  t : Int
  rd : Int
  seq : Int
  deriving DecidableEq
def offR (k : Ch) (ms : List Msg) (t rd seq mode lane : Int) (ws : List Int) (now round : Int) : OffR :=
  if ¬ judge k mode lane ws = 0 then ⟨zeroMsg, judge k mode lane ws, ms, t, rd, seq⟩
  else if room (cl 1 3 k.lanes) (cl 1 8 k.depth) ms lane = 0 then ⟨zeroMsg, 2, ms, t, rd, seq⟩
  else if bTok (cl 0 64 k.rate) (cl 1 64 k.cap) t rd round = 0 then ⟨zeroMsg, 2, ms, 0, bRnd rd round, seq⟩
  else ⟨⟨ws, lane, cut now, sadd now k.life, seq + 1⟩, 0, ms ++ [⟨ws, lane, cut now, sadd now k.life, seq + 1⟩], bTok (cl 0 64 k.rate) (cl 1 64 k.cap) t rd round - 1, bRnd rd round, seq + 1⟩
theorem room_lane {ln pl : Int} {ms : List Msg} {q : Int} (h : ¬ room ln pl ms q = 0) : 0 ≤ q ∧ q < ln := by
  unfold room at h
  by_cases h1 : 0 ≤ q ∧ q < ln
  · exact h1
  · rw [if_neg h1] at h; exact absurd rfl h
set_option maxHeartbeats 2000000 in
/-- Offer. -/
theorem gOffer_spec {W : World} {g gl gb : Nat} {Ol E ok : Nat → Prop} {k : Ch} {ms : List Msg} {t rd seq : Int} (h : GObj W g gl gb Ol E k ms t rd seq) (hsq : -1000000000000 ≤ seq ∧ seq ≤ 1000000000000) {v : Value} {ws : List Int} (hws : Foot (fun w => RInts w v ws) W ok) (hok : ∀ q, ok q → ¬ GB g gb Ol q) (hl8 : ws.length ≤ 8) (mode lane now round : Int) :
    Calls Try.prog 54 #[.pointer (some ⟨g, 0, none⟩), .int .i64 mode, .int .i64 lane, v, .int .i64 now, .int .i64 round] W fun e w' => ∃ r, e = .returned r ∧ ∃ vm, r = .tuple #[vm, .int .i64 (offR k ms t rd seq mode lane ws now round).e] ∧ Ext (GB g gb Ol) W w' ∧
      ∃ M Ol' E', Foot (fun w => RMsg w vm (offR k ms t rd seq mode lane ws now round).m) w' M ∧ (∀ q, M q → W.heap.size ≤ q ∧ ¬ Ol' q ∧ ¬ E' q) ∧ GObj w' g gl gb Ol' E' k (offR k ms t rd seq mode lane ws now round).ms (offR k ms t rd seq mode lane ws now round).t (offR k ms t rd seq mode lane ws now round).rd (offR k ms t rd seq mode lane ws now round).seq ∧
        (∀ q, Ol' q → Ol q ∨ W.heap.size ≤ q) ∧ (∀ q, E' q → E q ∨ W.heap.size ≤ q) := by
  have hb := h.b
  have hlt : ∀ {q : Nat}, GB g gb Ol q ∨ E q → q < W.heap.size := fun hq => h.lt hq
  obtain ⟨A, c, rfl, hc, hmx⟩ := hws.now.slice
  refine Calls.of_G6 Try.func54 rfl Try.ntmps54 rfl ?_
  refine J.at (C := Cls W (fun q => q = g) [_]) ?_ (Cls.start1 hb)
  unfold gC
  unfold gC at hb
  have st0 : ∀ {H' : List Blk} {w' : World}, Cls W (fun q => q = g) H' w' → (⟨g, [.int .i64 k.kind, .int .i64 k.from_, .int .i64 k.to, .int .i64 k.words, .int .i64 k.refresh, .int .i64 k.lanes, .int .i64 k.depth, .int .i64 k.hold, .int .i64 k.life, .int .i64 k.rate, .int .i64 k.cap, .pointer (some ⟨gl, 0, none⟩), .pointer (some ⟨gb, 0, none⟩), .int .i64 seq], 157⟩ : Blk) ∈ H' → Ext No W w' := fun h h1 => h.still fun k hk => ⟨_, h1, hk.symm, hb⟩
  repeat (first | (apply JL.y; (first | (apply Y_move; rfl) | (apply Y_assign; rfl) | (apply Y_fieldAddr; rfl; rfl) | (apply Y_nilCheck; rfl) | (apply Y_pnil_f; rfl)); rfl) | refine J.seq ?_ | refine J.region ?_ | refine JL.nil ?_ | (apply JL.alloc; rfl; rfl; intro _) | refine J.skip ?_ | refine J.cond_f rfl ?_)
  rename_i b12
  (apply JL.y; (apply Y_loadS 1; rfl; rfl; exact inferInstance; exact (rfl : _ = chC k); rfl); rfl)
  repeat (first | (apply JL.y; (first | (apply Y_move; rfl) | (apply Y_assign; rfl) | (apply Y_neq; rfl; rfl)); rfl) | refine J.seq ?_ | refine J.region ?_ | refine JL.nil ?_ | (apply JL.callq; rfl; rfl; (intro wc hwc; first | exact judge_spec k mode lane (hws.ext0 (st0 hwc (by simp))))))
  refine J.cond_d rfl (fun h1 => ?_) (fun h1 => ?_)
  · have ho : offR k ms t rd seq mode lane ws now round = ⟨zeroMsg, judge k mode lane ws, ms, t, rd, seq⟩ := by rw [offR, if_pos h1]
    rw [ho]
    repeat (first | (apply JL.y; (first | (apply Y_move; rfl) | (apply Y_assign; rfl) | (apply Y_build; rfl; exact inferInstance)); rfl) | refine J.seq ?_ | refine J.region ?_ | refine JL.nil ?_ | (apply JL.store; (apply St_W 0; rfl; rfl; rfl; exact inferInstance; rfl; rfl; (first | (focus (simp [Value.oneCell']; done)) | (simp [Value.oneCell']; assumption) | (simp [Value.oneCell']; exact ⟨by assumption, by assumption⟩)); (first | (focus (simp only [List.set_cons_zero]; done)) | (simp only [List.set_cons_zero]; rfl)))))
    refine J.ret2 Try.func54 Try.results54 (RV.W 0 rfl rfl rfl) (RV.tm rfl) fun w' hw' => ⟨_, rfl, _, rfl, (st0 hw' (by simp)).no, No, Ol, E, zero_msg w' No, fun _ h => h.elim, h.ext0 (st0 hw' (by simp)), fun _ h => .inl h, fun _ h => .inl h⟩
  repeat (first | (apply JL.y; (first | (apply Y_move; rfl) | (apply Y_fieldAddr; rfl; rfl) | (apply Y_load1 1; rfl; rfl; rfl; exact inferInstance) | (apply Y_nilCheck; rfl) | (apply Y_eql; rfl; rfl)); rfl) | refine J.seq ?_ | refine J.region ?_ | (apply JL.callq; rfl; rfl; (intro wc hwc; first | exact laneRoom_spec (h.l.ext0 (st0 hwc (by simp))) _)) | refine J.skip ?_)
  by_cases h2 : room (cl 1 3 k.lanes) (cl 1 8 k.depth) ms lane = 0
  · have ho : offR k ms t rd seq mode lane ws now round = ⟨zeroMsg, 2, ms, t, rd, seq⟩ := by rw [offR, if_neg h1, if_pos h2]
    rw [ho, decide_eq_true h2]
    repeat (first | (apply JL.y; (first | (apply Y_assign; rfl) | (apply Y_build; rfl; exact inferInstance) | (apply Y_pick_t; rfl; rfl)); rfl) | refine J.seq ?_ | refine J.region ?_ | refine JL.nil ?_ | (apply JL.store; (apply St_W 0; rfl; rfl; rfl; exact inferInstance; rfl; rfl; (first | (focus (simp [Value.oneCell']; done)) | (simp [Value.oneCell']; assumption) | (simp [Value.oneCell']; exact ⟨by assumption, by assumption⟩)); (first | (focus (simp only [List.set_cons_zero]; done)) | (simp only [List.set_cons_zero]; rfl)))) | (apply JL.guard_no; rfl; rfl; rfl; rfl; rfl) | refine J.cond_t rfl ?_)
    refine J.ret2 Try.func54 Try.results54 (RV.W 0 rfl rfl rfl) (RV.tm rfl) fun w' hw' => ⟨_, rfl, _, rfl, (st0 hw' (by simp)).no, No, Ol, E, zero_msg w' No, fun _ h => h.elim, h.ext0 (st0 hw' (by simp)), fun _ h => .inl h, fun _ h => .inl h⟩
  rw [decide_eq_false h2]
  repeat (first | (apply JL.y; (first | (apply Y_move; rfl) | (apply Y_fieldAddr; rfl; rfl) | (apply Y_load1 1; rfl; rfl; rfl; exact inferInstance) | (apply Y_nilCheck; rfl)); rfl) | (apply JL.guard_yes; rfl; rfl; rfl))
  refine JL.call (fun w1 v w2 => v = .bool (decide (¬ bTok (cl 0 64 k.rate) (cl 1 64 k.cap) t rd round = 0)) ∧ Ext (fun q => q = gb) w1 w2 ∧ BlkIn w2 ⟨gb, bC (cl 0 64 k.rate) (cl 1 64 k.cap) (if bTok (cl 0 64 k.rate) (cl 1 64 k.cap) t rd round = 0 then 0 else bTok (cl 0 64 k.rate) (cl 1 64 k.cap) t rd round - 1) (bRnd rd round), 189⟩) rfl rfl (fun w1 hw1 => (bTake_spec (h.kb.ext0 (st0 hw1 (by simp))) h.bi round)) fun w1 x w2 hw1 ⟨hx, hE, hB⟩ => ?_
  subst hx
  have hE01 := st0 hw1 (by simp)
  have b12l : W.heap.size ≤ b12 := hw1.fresh fun q h => ⟨_, .head _, h.symm⟩
  have b12u := (hw1.has _ (.head _)).lt
  simp only at b12u
  have hlb := hlt (.inl (.inr (.inl rfl)))
  have hlg := hlt (.inl (.inl rfl))
  have hB12 := (hw1.has _ (.head _)).keep hE (by simp only; omega)
  have hBg := (hw1.has _ (.tail _ (.head _))).keep hE h.ne
  have hbn : BIn (cl 0 64 k.rate) (cl 1 64 k.cap) (if bTok (cl 0 64 k.rate) (cl 1 64 k.cap) t rd round = 0 then 0 else bTok (cl 0 64 k.rate) (cl 1 64 k.cap) t rd round - 1) (bRnd rd round) := by
    by_cases h0 : bTok (cl 0 64 k.rate) (cl 1 64 k.cap) t rd round = 0
    · rw [if_pos h0]; have := h.bi.come round; rw [h0] at this; exact this
    · rw [if_neg h0]; exact (h.bi.come round).take h0
  have hG2 := (h.ext0 hE01).bucket hE hB hbn
  have s01 := hE01.size
  have s12 := hE.size
  have hX2 : Ext (GB g gb Ol) W w2 := hE01.no.then hE fun q _ h => .inr (.inl h)
  have hws2 := (hws.ext0 hE01).ext hE fun q _ h1 h2 => hok q h1 (.inr (.inl h2))
  refine GL.of_JL (C := Cls w2 (fun q => q = b12 ∨ q = g) [_, _]) (Cls.start2 hB12 hBg (by simp only; omega)) ?_
  repeat (first | (apply JL.y; (first | (apply Y_not_d; rfl) | (apply Y_pick_f; rfl; rfl)); rfl) | refine JL.nil ?_ | (apply JL.guard_yes; rfl; rfl; rfl))
  refine J.cond_d rfl (fun h3 => ?_) (fun h3 => ?_)
  · have h3' := Classical.not_not.1 h3
    have ho : offR k ms t rd seq mode lane ws now round = ⟨zeroMsg, 2, ms, 0, bRnd rd round, seq⟩ := by rw [offR, if_neg h1, if_neg h2, if_pos h3']
    rw [ho]
    rw [if_pos h3'] at hG2
    repeat (first | (apply JL.y; (first | (apply Y_assign; rfl) | (apply Y_build; rfl; exact inferInstance)); rfl) | refine J.seq ?_ | refine J.region ?_ | refine JL.nil ?_ | (apply JL.store; (apply St_W 0; rfl; rfl; rfl; exact inferInstance; rfl; rfl; (first | (focus (simp [Value.oneCell']; done)) | (simp [Value.oneCell']; assumption) | (simp [Value.oneCell']; exact ⟨by assumption, by assumption⟩)); (first | (focus (simp only [List.set_cons_zero]; done)) | (simp only [List.set_cons_zero]; rfl)))))
    refine J.ret2 Try.func54 Try.results54 (RV.W 0 rfl rfl rfl) (RV.tm rfl) fun w' hw' => ?_
    have hE' : Ext (fun q => q = b12) w2 w' := hw'.but fun q h => h.elim .inl fun h => .inr ⟨_, .tail _ (.head _), h.symm, hBg⟩
    exact ⟨_, rfl, _, rfl, hX2.then hE' fun q h1 h2 => by omega, No, Ol, E, zero_msg w' No, fun _ h => h.elim, hG2.ext hE' fun q h1 h2 => by have := hlt h1; omega, fun _ h => .inl h, fun _ h => .inl h⟩
  have ho : offR k ms t rd seq mode lane ws now round = ⟨⟨ws, lane, cut now, sadd now k.life, seq + 1⟩, 0, ms ++ [⟨ws, lane, cut now, sadd now k.life, seq + 1⟩], bTok (cl 0 64 k.rate) (cl 1 64 k.cap) t rd round - 1, bRnd rd round, seq + 1⟩ := by rw [offR, if_neg h1, if_neg h2, if_neg (fun h => h3 (fun h' => h' h))]
  rw [ho]
  rw [if_neg (fun h => h3 (fun h' => h' h))] at hG2
  obtain ⟨m, hm⟩ : ∃ m : Msg, m = ⟨ws, lane, cut now, sadd now k.life, seq + 1⟩ := ⟨_, rfl⟩
  rw [← hm]
  have hmw : m.words = ws := by rw [hm]
  have hml : m.lane = lane := by rw [hm]
  have hput : putR (cl 1 3 k.lanes) (cl 1 8 k.depth) ms m = (0, ms ++ [m]) := by
    have := room_lane h2
    rw [putR, hml, if_neg (by omega), if_neg h2]
  repeat (first | (apply JL.y; (first | (apply Y_move; rfl) | (apply Y_fieldAddr; rfl; rfl) | (apply Y_load1 1; rfl; rfl; rfl; exact inferInstance) | (apply Y_nilCheck; rfl) | (apply Y_add; rfl; rfl; omega)); rfl) | refine J.seq ?_ | refine J.region ?_ | refine JL.nil ?_ | (apply JL.store; (apply St_1 1; rfl; rfl; exact inferInstance; (first | rfl | assumption); rfl; rfl; (first | (focus (simp only [List.set_cons_zero, List.set_cons_succ]; done)) | (simp only [List.set_cons_zero, List.set_cons_succ]; rfl)))) | refine J.skip ?_)
  refine J.intro fun w3 hw3 => ?_
  have hB12' := hw3.has _ (.head _)
  have hBg' := hw3.has _ (.tail _ (.head _))
  have hE23 : Ext (fun q => q = g) w2 w3 := hw3.but fun q h => h.elim (fun h => .inr ⟨_, .head _, h.symm, hB12⟩) .inl
  have hG3 := hG2.num hE23 hBg'
  have hX3 : Ext (GB g gb Ol) W w3 := hX2.then hE23 fun q _ h => .inl h
  have hws3 := hws2.ext hE23 fun q _ h1 h2 => hok q h1 (.inl h2)
  have s23 := hE23.size
  have st3 : ∀ {H' : List Blk} {w' : World}, Cls w3 (fun q => q = b12 ∨ q = g) H' w' → (⟨b12, [.slice none 0 0, .int .i64 0, .int .i64 0, .int .i64 0, .int .i64 0], 33⟩ : Blk) ∈ H' → (⟨g, [.int .i64 k.kind, .int .i64 k.from_, .int .i64 k.to, .int .i64 k.words, .int .i64 k.refresh, .int .i64 k.lanes, .int .i64 k.depth, .int .i64 k.hold, .int .i64 k.life, .int .i64 k.rate, .int .i64 k.cap, .pointer (some ⟨gl, 0, none⟩), .pointer (some ⟨gb, 0, none⟩), .int .i64 (seq + 1)], 157⟩ : Blk) ∈ H' → Ext No w3 w' := fun h h1 h2 => h.still fun q hq => hq.elim (fun hq => ⟨_, h1, hq.symm, hB12'⟩) fun hq => ⟨_, h2, hq.symm, hBg'⟩
  refine J.at (C := Cls w3 (fun q => q = b12 ∨ q = g) [_, _]) ?_ (Cls.start2 hB12' hBg' (by simp only; omega))
  refine J.draw (S := Cls _ _ _) [18] #[false, false, false, false, false, false, false, false, false, false, false, false, false, false, false, false, false, false, false] rfl rfl (fun w hw => hw.drew) (fun w hS => ?_)
  (apply DR.pure 0 #[true, false, false, false, false, false, false, false, false, false, false, false, false, false, false, false, false, false, false]; rfl; kernel_rfl; (apply Y_move; rfl); rfl)
  (apply DR.pure 2 #[true, false, true, false, false, false, false, false, false, false, false, false, false, false, false, false, false, false, false]; rfl; kernel_rfl; (apply Y_move; rfl); rfl)
  (apply DR.pure 3 #[true, false, true, true, false, false, false, false, false, false, false, false, false, false, false, false, false, false, false]; rfl; kernel_rfl; (apply Y_move; rfl); rfl)
  (apply DR.pure 5 #[true, false, true, true, false, true, false, false, false, false, false, false, false, false, false, false, false, false, false]; rfl; kernel_rfl; (apply Y_move; rfl); rfl)
  (apply DR.pure 6 #[true, false, true, true, false, true, true, false, false, false, false, false, false, false, false, false, false, false, false]; rfl; kernel_rfl; (apply Y_move; rfl); rfl)
  (apply DR.pure 7 #[true, false, true, true, false, true, true, true, false, false, false, false, false, false, false, false, false, false, false]; rfl; kernel_rfl; (first | (apply Y_nilCheck; rfl) | (apply Y_nilCheckF; rfl)); rfl)
  (apply DR.pure 8 #[true, false, true, true, false, true, true, true, true, false, false, false, false, false, false, false, false, false, false]; rfl; kernel_rfl; (apply Y_fieldAddr; rfl; rfl); rfl)
  (apply DR.pure 9 #[true, false, true, true, false, true, true, true, true, true, false, false, false, false, false, false, false, false, false]; rfl; kernel_rfl; (apply Y_fieldAddr; rfl; rfl); rfl)
  (apply DR.take 10 #[true, false, true, true, false, true, true, true, true, true, true, false, false, false, false, false, false, false, false]; rfl; kernel_rfl; (first | (apply Y_load1 0; rfl; rfl; rfl; exact inferInstance) | (apply Y_load1 1; rfl; rfl; rfl; exact inferInstance) | (apply Y_load1 2; rfl; rfl; rfl; exact inferInstance) | (apply Y_load1 3; rfl; rfl; rfl; exact inferInstance) | (apply Y_loadW 0; rfl; rfl; exact inferInstance; rfl) | (apply Y_loadW 1; rfl; rfl; exact inferInstance; rfl) | (apply Y_loadW 2; rfl; rfl; exact inferInstance; rfl) | (apply Y_loadW 3; rfl; rfl; exact inferInstance; rfl)); rfl; exact hS)
  (apply DR.pure 12 #[true, false, true, true, false, true, true, true, true, true, true, false, true, false, false, false, false, false, false]; rfl; kernel_rfl; (apply Y_move; rfl); rfl)
  (apply DR.pure 13 #[true, false, true, true, false, true, true, true, true, true, true, false, true, true, false, false, false, false, false]; rfl; kernel_rfl; (first | (apply Y_nilCheck; rfl) | (apply Y_nilCheckF; rfl)); rfl)
  (apply DR.pure 14 #[true, false, true, true, false, true, true, true, true, true, true, false, true, true, true, false, false, false, false]; rfl; kernel_rfl; (apply Y_fieldAddr; rfl; rfl); rfl)
  (apply DR.take 15 #[true, false, true, true, false, true, true, true, true, true, true, false, true, true, true, true, false, false, false]; rfl; kernel_rfl; (first | (apply Y_load1 0; rfl; rfl; rfl; exact inferInstance) | (apply Y_load1 1; rfl; rfl; rfl; exact inferInstance) | (apply Y_load1 2; rfl; rfl; rfl; exact inferInstance) | (apply Y_load1 3; rfl; rfl; rfl; exact inferInstance) | (apply Y_loadW 0; rfl; rfl; exact inferInstance; rfl) | (apply Y_loadW 1; rfl; rfl; exact inferInstance; rfl) | (apply Y_loadW 2; rfl; rfl; exact inferInstance; rfl) | (apply Y_loadW 3; rfl; rfl; exact inferInstance; rfl)); rfl; exact hS)
  refine DRA.go (l' := #[true, false, true, true, false, true, true, true, true, true, true, false, true, true, true, true, false, true, false]) (w0 := w3) (d := 15) (cs := [.slice none 0 0, .int .i64 0, .int .i64 0, .int .i64 0, .int .i64 0]) (t := 33) (U := No) ?_
  refine DRA.call 17 1 #[true, true, true, true, false, true, true, true, true, true, true, false, true, true, true, true, false, false, false] #[true, true, true, true, false, true, true, true, true, true, true, false, true, true, true, true, false, true, false] (fun v' N w' => Row w' 3 1 v' (ints ws) ∧ (∀ q, v'.ownBlock = some q → N q) ∧ ∀ q, N q → w3.heap.size ≤ q) No rfl rfl (by kernel_rfl) (by kernel_rfl) rfl rfl rfl rfl rfl rfl rfl inferInstance rfl hS (fun _ _ h he => h.ext0 he) (fun _ h => h.ext.size) (fun _ h => h.elim) (fun _ h => h.elim) (fun w4 hE4 hS4 => ?_) (fun vw N w5 ⟨hRw, hNv, hNl⟩ hS hN hU => ?_)
  · exact (cloneInts_spec (hws3.ext0 (st3 hS4 (by simp) (by simp))) (by omega)).mono fun e w' ⟨r, h1, h2, _, _, h3, h4⟩ => ⟨r, fun q => w4.heap.size ≤ q ∧ q < w'.heap.size, h1, ⟨h3, fun q hq => ⟨h4 q hq, h3.lt hq⟩, fun q hq => Nat.le_trans hS4.ext.size hq.1⟩, fun q h => h, h2, hS4.ext0 h2⟩
  obtain ⟨Aw, cw, rfl, _⟩ := hRw.slice
  rw [ints_len] at hRw hNv ⊢
  refine DRA.callq 17 4 #[true, true, true, true, true, true, true, true, true, true, true, false, true, true, true, true, false, false, false] #[true, true, true, true, true, true, true, true, true, true, true, false, true, true, true, true, false, true, false] rfl rfl (by kernel_rfl) (by kernel_rfl) rfl rfl rfl rfl rfl rfl rfl inferInstance rfl hS (fun _ _ h he => h.ext0 he) (fun _ h => h.ext.size) hU (fun w6 hE6 hS6 => cut_spec _ _) (fun w6 hE6 hS hU => ?_)
  refine DRA.callq 17 11 #[true, true, true, true, true, true, true, true, true, true, true, true, true, true, true, true, false, false, false] #[true, true, true, true, true, true, true, true, true, true, true, true, true, true, true, true, false, true, false] rfl rfl (by kernel_rfl) (by kernel_rfl) rfl rfl rfl rfl rfl rfl rfl inferInstance rfl hS (fun _ _ h he => h.ext0 he) (fun _ h => h.ext.size) hU (fun w7 hE7 hS7 => add_spec _ _ _) (fun w7 hE7 hS hU => ?_)
  (apply DRA.pure 16 #[true, true, true, true, true, true, true, true, true, true, true, true, true, true, true, true, true, false, false] #[true, true, true, true, true, true, true, true, true, true, true, true, true, true, true, true, true, true, false]; rfl; kernel_rfl; kernel_rfl; (apply Y_build; rfl; exact inferInstance); rfl; rfl; rfl)
  refine DRA.end_ 17 rfl (by kernel_rfl) rfl rfl inferInstance rfl hS (fun _ _ h he => h.ext0 he) (fun _ h => h.ext.size) hU (fun b15 w8 hE8 hS b15l hb15 hB15 => ?_)
  have hE58 := (hE6.trans hE7).trans hE8
  have hRw8 := hRw.ext0 hE58
  have hE38 := st3 hS (by simp) (by simp)
  (apply DR.store 18 #[true, true, true, true, true, true, true, true, true, true, true, true, true, true, true, true, true, true, true]; rfl; kernel_rfl; rfl; exact (Cls.start3 hB15 (hS.has _ (.head _)) (hS.has _ (.tail _ (.head _))) (by simp only; omega) (by simp only; omega) (by simp only; omega)); (apply St_W 0; rfl; rfl; rfl; exact inferInstance; rfl; rfl; simp [Value.oneCell']; rfl); intro w9 hC9)
  refine DR.done (by kernel_rfl) ?_
  have hb15n : ∀ q, (Value.slice Aw ws.length cw).ownBlock = some q → q ≠ b15 ∧ w3.heap.size ≤ q ∧ q < w8.heap.size := fun q hq => ⟨fun h => hb15 (.inr (h ▸ hNv q hq)), hNl q (hNv q hq), hRw8.lt hq⟩
  have s38 := hE38.size
  have hD : ∀ q, (q = b15 ∨ q = b12 ∨ q = g) → ¬ (GB g gb Ol q ∧ q ≠ g) ∧ ¬ E q := fun q hq => by
    rcases hq with rfl | rfl | rfl
    · exact ⟨fun h => by have := hlt (.inl h.1); omega, fun h => by have := hlt (.inr h); omega⟩
    · exact ⟨fun h => by have := hlt (.inl h.1); omega, fun h => by have := hlt (.inr h); omega⟩
    · exact ⟨fun h => h.2 rfl, h.og.2⟩
  have hOD : ∀ q, Ol q ∨ E q → ¬ (q = b15 ∨ q = b12 ∨ q = g) := fun q hq h' => hq.elim (fun ho => (hD q h').1 ⟨.inr (.inr ho), fun h'' => h.og.1 (h'' ▸ ho)⟩) fun he => (hD q h').2 he
  have hG8 := hG3.ext0 hE38
  have hw15 : ([.slice Aw ws.length cw, .int .i64 lane, .int .i64 (cut now), .int .i64 (sadd now k.life), .int .i64 (seq + 1)] : List Value) = msgC (.slice Aw ws.length cw) m := by rw [hm]; rfl
  refine J.at (C := Cls w8 (fun q => q = b15 ∨ q = b12 ∨ q = g) [_, _, _]) ?_ hC9
  repeat (first | refine J.seq ?_)
  refine J.drawC (S := Cls w8 (fun q => (q = b15 ∨ q = b12 ∨ q = g) ∨ Ol q) [_, _, _]) [] #[false, false, false, false, false, false] rfl rfl (fun w hw => ⟨hw.drew.ext.mono fun _ _ h => .inl h, hw.drew.has, hw.drew.apart, fun x hx => (hw.drew.mine x hx).imp .inl id⟩) (fun w hC0 hS => ?_)
  have hC := hC0.drew
  generalize w.drew = wd at hS hC ⊢
  (apply DR.pure 0 #[true, false, false, false, false, false]; rfl; kernel_rfl; (apply Y_move; rfl); rfl)
  (apply DR.pure 1 #[true, true, false, false, false, false]; rfl; kernel_rfl; (first | (apply Y_nilCheck; rfl) | (apply Y_nilCheckF; rfl)); rfl)
  (apply DR.pure 2 #[true, true, true, false, false, false]; rfl; kernel_rfl; (apply Y_fieldAddr; rfl; rfl); rfl)
  (apply DR.take 3 #[true, true, true, true, false, false]; rfl; kernel_rfl; (first | (apply Y_load1 0; rfl; rfl; rfl; exact inferInstance) | (apply Y_load1 1; rfl; rfl; rfl; exact inferInstance) | (apply Y_load1 2; rfl; rfl; rfl; exact inferInstance) | (apply Y_load1 3; rfl; rfl; rfl; exact inferInstance) | (apply Y_loadW 0; rfl; rfl; exact inferInstance; rfl) | (apply Y_loadW 1; rfl; rfl; exact inferInstance; rfl) | (apply Y_loadW 2; rfl; rfl; exact inferInstance; rfl) | (apply Y_loadW 3; rfl; rfl; exact inferInstance; rfl)); rfl; exact hS)
  (apply DR.take 4 #[true, true, true, true, true, false]; rfl; kernel_rfl; (first | (apply Y_load1 0; rfl; rfl; rfl; exact inferInstance) | (apply Y_load1 1; rfl; rfl; rfl; exact inferInstance) | (apply Y_load1 2; rfl; rfl; rfl; exact inferInstance) | (apply Y_load1 3; rfl; rfl; rfl; exact inferInstance) | (apply Y_loadW 0; rfl; rfl; exact inferInstance; rfl) | (apply Y_loadW 1; rfl; rfl; exact inferInstance; rfl) | (apply Y_loadW 2; rfl; rfl; exact inferInstance; rfl) | (apply Y_loadW 3; rfl; rfl; exact inferInstance; rfl)); rfl; exact hS)
  refine DR.call 5 #[true, true, true, true, true, true] (fun v w' => v = .int .i64 0 ∧ LTo wd w' gl Ol E (cl 1 3 k.lanes) (cl 1 8 k.depth) (ms ++ [m])) rfl (by kernel_rfl) rfl rfl rfl ?_ (fun v w' hv => hS.extA hv.2.1 (fun q _ h => .inr h) ?_) (fun v w10 ⟨_, hLT⟩ hS => ?_)
  · rw [hw15]
    refine (lanePut_spec (hG8.l.ext hC.ext hOD) (RMsg.mk (m := m) (ok := fun q => (Value.slice Aw ws.length cw).ownBlock = some q) ?_ (by rw [hmw]; exact hl8))).mono fun e w' ⟨r, h1, h2, h3⟩ => ⟨r, h1, by rw [h2, hput], by rw [hput] at h3; exact h3⟩
    rw [hmw]
    exact (hRw8.ints_foot (xs := ws)).ext hC.ext fun q _ h1 h2 => by have := hb15n q h1; omega
  · simp only [List.mem_cons, List.not_mem_nil, or_false]
    rintro x (rfl | rfl | rfl) ho
    · exact hOD _ (.inl ho) (.inl rfl)
    · exact hOD _ (.inl ho) (.inr (.inl rfl))
    · exact hOD _ (.inl ho) (.inr (.inr rfl))
  refine DR.done (by kernel_rfl) ?_
  have hEd : Ext (fun q => q = b15 ∨ q = b12) w8 wd := hC.but fun q h => by
    rcases h with h | h | h
    · exact .inl (.inl h)
    · exact .inl (.inr h)
    · exact .inr ⟨_, .tail _ (.tail _ (.head _)), h.symm, hG8.b⟩
  have hDN : ∀ q, (q = b15 ∨ q = b12) → W.heap.size ≤ q ∧ q < w8.heap.size := fun q h => by
    have h15 := hB15.lt
    simp only at h15
    omega
  have hGd := hG8.ext hEd fun q hq h' => by have := hlt hq; have := hDN q h'; omega
  have sd := hEd.size
  have sl := hLT.1.size
  have hOl : ∀ q, Ol q → q < W.heap.size := fun q hq => hlt (.inl (.inr (.inr hq)))
  obtain ⟨hE10, Ol', E', hG10, hO', hE'⟩ := hGd.lane hLT
  have hF8 : Foot (fun w => RInts w (.slice Aw ws.length cw) m.words) w8 (fun q => (Value.slice Aw ws.length cw).ownBlock = some q) := by rw [hmw]; exact hRw8.ints_foot (xs := ws)
  have hF10 := (hF8.ext hEd fun q _ h1 h2 => by have := hb15n q h1; omega).ext hLT.1 fun q _ h1 h2 => by have := hb15n q h1; have := hOl q h2; omega
  have hX10 : Ext (GB g gb Ol) W w10 := (((hX3.then hE38 fun q _ h => h.elim).then hEd fun q h1 h2 => by have := hDN q h2; omega)).then hE10 fun q _ h => h
  refine J.at (C := Cls w10 (fun q => q = b15 ∨ q = b12) [_, _]) ?_ (Cls.start2 (hS.has _ (.head _)) (hS.has _ (.tail _ (.head _))) (by simp only; omega))
  repeat (first | (apply JL.y; (first | (apply Y_assign; rfl) | (apply Y_loadW 0; rfl; rfl; exact inferInstance; rfl)); rfl) | refine J.seq ?_ | refine J.region ?_ | refine JL.nil ?_ | (apply JL.store; (apply St_W 1; rfl; rfl; rfl; exact inferInstance; rfl; rfl; (first | (focus (simp [Value.oneCell']; done)) | (simp [Value.oneCell']; assumption) | (simp [Value.oneCell']; exact ⟨by assumption, by assumption⟩)); (first | (focus (simp only [List.set_cons_zero, List.set_cons_succ]; done)) | (simp only [List.set_cons_zero, List.set_cons_succ]; rfl)))))
  refine J.ret2 Try.func54 Try.results54 (RV.W 1 rfl rfl rfl) (RV.tm rfl) fun w' hw' => ?_
  have hne : ∀ q, GB g gb Ol' q ∨ E' q → ¬ (q = b15 ∨ q = b12) := fun q hq h' => by
    have h2 := hDN q h'
    rcases hq with (h3 | h3 | h3) | h3
    · omega
    · omega
    · rcases hO' q h3 with h4 | h4
      · have := hOl q h4; omega
      · omega
    · rcases hE' q h3 with h4 | h4
      · have := hlt (.inr h4); omega
      · omega
  refine ⟨_, rfl, .agg (msgC (.slice Aw ws.length cw) m).toArray, by rw [← hw15], hX10.then hw'.ext fun q h1 h2 => by have := hDN q h2; omega, _, Ol', E', (RMsg.mk hF10 (by rw [hmw]; exact hl8)).ext hw'.ext fun q _ h1 h2 => by have := hb15n q h1; omega, fun q hq => ?_, hG10.ext hw'.ext hne, fun q hq => (hO' q hq).imp id fun h => by omega, fun q hq => (hE' q hq).imp id fun h => by omega⟩
  have h2 := hb15n q hq
  refine ⟨by omega, fun h3 => ?_, fun h3 => ?_⟩
  · rcases hO' q h3 with h4 | h4
    · have := hOl q h4; omega
    · omega
  · rcases hE' q h3 with h4 | h4
    · have := hlt (.inr h4); omega
    · omega
end Go.Proofs.Ytmkpbbdocndfbaa
