/- law 12: GateLate, the walk. -/
import Derived.Test.YtmkpbbdocndfbaaUBH
namespace Go.Proofs.Ytmkpbbdocndfbaa
open Go.RowKit Go.Proofs
attribute [local irreducible] Yl JL J G GL GA GQ DR DRA

theorem goodC_in (k : Ch) : (goodC k).kind = 1 ∧ (1 ≤ (goodC k).words ∧ (goodC k).words ≤ 4) ∧ (1 ≤ (goodC k).lanes ∧ (goodC k).lanes ≤ 3) ∧ (1 ≤ (goodC k).depth ∧ (goodC k).depth ≤ 4) ∧ (1 ≤ (goodC k).hold ∧ (goodC k).hold ≤ 4) ∧ (1 ≤ (goodC k).life ∧ (goodC k).life ≤ 60) ∧ (0 ≤ (goodC k).rate ∧ (goodC k).rate ≤ 4) ∧ (1 ≤ (goodC k).cap ∧ (goodC k).cap ≤ 6) := by
  have h1 := near_in k.words (least := 1) (many := 4) (by decide)
  have h2 := near_in k.lanes (least := 1) (many := 3) (by decide)
  have h3 := near_in k.depth (least := 1) (many := 4) (by decide)
  have h4 := near_in k.hold (least := 1) (many := 4) (by decide)
  have h5 := near_in k.life (least := 1) (many := 60) (by decide)
  have h6 := near_in k.rate (least := 0) (many := 5) (by decide)
  have h7 := near_in k.cap (least := 1) (many := 6) (by decide)
  refine ⟨rfl, ⟨h1.1, ?_⟩, ⟨h2.1, ?_⟩, ⟨h3.1, ?_⟩, ⟨h4.1, ?_⟩, ⟨h5.1, ?_⟩, ⟨h6.1, ?_⟩, ⟨h7.1, ?_⟩⟩ <;> simp only [goodC] <;> omega
/-- What is right, and let in. -/
theorem judge_one {k : Ch} (h0 : k.kind = 1) (h1 : 1 ≤ k.words) {lane : Int} (h2 : 0 ≤ lane ∧ lane < k.lanes) {x : Int} (hx : 0 ≤ x ∧ x ≤ 2147483647) : judge k 0 lane [x] = 0 := by
  have ho : ([x] : List Int).any odd = false := by simp [odd]; omega
  rw [judge, if_neg (by simp), if_neg (by simp [h0]), ho]
  exact if_neg (fun h => by rcases h with h | h | h | h | h <;> first | omega | (simp at h; omega) | cases h)
theorem tok_start (r c : Int) (_ : 1 ≤ c) : bTok r c c 0 0 = c := by
  unfold bTok
  rw [show ssub 0 0 = 0 by decide]
  omega
theorem tmod_in (x m : Int) (hm : 0 < m) : 0 ≤ (IntKind.u64.wrap x).tmod m ∧ (IntKind.u64.wrap x).tmod m < m := ⟨Int.tmod_nonneg _ (wrap_u64_nonneg x), Int.tmod_lt_of_pos _ hm⟩
set_option maxHeartbeats 4000000 in
theorem gateLate_walk (k : Ch) (nw af : Int) (W : World) :
    Calls Try.prog 7 #[.agg (chC k).toArray, .int .i64 nw, .int .i64 af] W fun e w' => e = .returned (.bool true) ∧ Ext No W w' := by
  have hg := goodC_in k
  obtain ⟨kg, hkg⟩ : ∃ kg, kg = goodC k := ⟨_, rfl⟩
  have hgood : ∀ w, Calls Try.prog 49 #[.agg (chC k).toArray] w fun e w' => e = .returned (.agg (chC kg).toArray) ∧ Ext No w w' := by rw [hkg]; exact good12_spec k
  rw [← hkg] at hg
  obtain ⟨g1, g2, g3, g4, g5, g6, g7, g8⟩ := hg
  clear hkg
  have hn1 := tmod_in nw 1000000 (by decide)
  have hn2 := tmod_in af 100 (by decide)
  obtain ⟨now, hnow⟩ : ∃ x, x = (IntKind.u64.wrap nw).tmod 1000000 := ⟨_, rfl⟩
  obtain ⟨n, hnn⟩ : ∃ x, x = (IntKind.u64.wrap af).tmod 100 := ⟨_, rfl⟩
  rw [← hnow] at hn1
  rw [← hnn] at hn2
  obtain ⟨m, hm⟩ : ∃ m : Msg, m = ⟨[5], 0, now, now + kg.life, 1⟩ := ⟨_, rfl⟩
  have hoff : offR kg [] (cl 1 64 kg.cap) 0 0 0 0 [5] now 0 = ⟨m, 0, [m], cl 1 64 kg.cap - 1, 0, 1⟩ := by
    have e1 : cut now = now := cut_id (by omega) (by omega)
    have e2 : sadd now kg.life = now + kg.life := by unfold sadd; rw [e1, cut_id (by omega) (by omega)]; omega
    rw [offR, if_neg (by rw [judge_one g1 g2.1 (by omega) (by decide)]; simp), if_neg (by simp [room, cnt, cl]; omega), if_neg (by rw [tok_start _ _ (by unfold cl; omega)]; unfold cl; omega), tok_start _ _ (by unfold cl; omega), e1, e2, hm]
    rfl
  have hlt : late (now + n) m = decide (kg.life ≤ n) := by
    unfold late
    rw [hm, cut_id (n := now + kg.life) (by omega) (by omega), cut_id (n := now + n) (by omega) (by omega)]
    exact decide_eq_decide.2 (by omega)
  refine Calls.of_G3 Try.func7 rfl Try.ntmps7 rfl ?_
  refine J.at (C := Cls W No []) ?_ (Cls.start _ _)
  unfold chC
  repeat (first | (apply JL.y; (first | (apply Y_assign; rfl) | (apply Y_loadW 0; rfl; rfl; exact inferInstance; rfl) | (apply Y_not; rfl)); rfl) | refine J.seq ?_ | refine J.region ?_ | refine JL.nil ?_ | (apply JL.callq; rfl; rfl; (intro wc hwc; first | exact lives12_spec _ | exact hgood _)) | (apply JL.box; rfl; rfl; rfl; intro _) | refine J.skip ?_ | refine J.cond_f rfl ?_)
  unfold chC
  repeat (first | (apply JL.y; (apply Y_loadW 0; rfl; rfl; exact inferInstance; rfl); rfl) | refine J.seq ?_ | refine J.region ?_ | refine JL.nil ?_ | (apply JL.store; (apply St_W 0; rfl; rfl; rfl; exact inferInstance; rfl; rfl; (first | (focus (simp [Value.oneCell']; done)) | (simp [Value.oneCell']; assumption) | (simp [Value.oneCell']; exact ⟨by assumption, by assumption⟩)); (first | (focus (simp only [List.set_cons_zero]; done)) | (simp only [List.set_cons_zero]; rfl)))))
  rename_i b3
  refine JL.call _ rfl rfl (fun w1 hw1 => gNew_spec kg w1) fun w1 r w2 hw1 ⟨g, gl, gb, hr, hE2, hG2, hgl, hll, hbl⟩ => ?_
  subst hr
  have hX2 := hw1.ext.trans hE2
  have s1 := hw1.ext.size
  have s2 := hE2.size
  have hB3 := (hw1.ext0 hE2).has _ (.head _)
  have b3l : W.heap.size ≤ b3 := hw1.fresh fun _ h => h.elim
  have b3u := (hw1.has _ (.head _)).lt
  simp only at b3u
  have hlt2 : ∀ {q : Nat}, GB g gb (fun q => q = gl) q ∨ No q → q < w2.heap.size := fun hq => hG2.lt hq
  refine GL.of_JL (C := Cls w2 (fun q => q = b3) [_]) (Cls.start1 hB3) ?_
  repeat (first | (apply JL.y; (first | (apply Y_move; rfl) | (apply Y_assign; rfl)); rfl) | refine J.seq ?_ | refine J.region ?_ | refine JL.nil ?_)
  apply JL.y (Y_conv rfl) rfl
  apply JL.y (Y_rem rfl rfl (by decide)) rfl
  rw [← hnow]
  repeat (first | (apply JL.y; (first | (apply Y_move; rfl) | (apply Y_assign; rfl) | (apply Y_convI; rfl; omega)); rfl) | refine J.seq ?_ | refine J.region ?_ | refine JL.nil ?_ | (apply JL.bslice1; rfl; rfl; rfl; rfl; rfl; rfl; intro _))
  rename_i bw
  refine JL.call _ rfl rfl (fun w3 hw3 => gOffer_spec (hG2.ext hw3.ext fun q hq h' => by
    have h3 : q = b3 := h'
    rcases hq with (h | h | h) | h
    · omega
    · omega
    · have h4 : q = gl := h
      omega
    · exact h) (by omega) (RInts.of_blk (hw3.has _ (.head _))) (fun q h1 h2 => by
    have := hlt2 (.inl h2)
    have : w2.heap.size ≤ bw := hw3.fresh fun q h => ⟨_, .head _, h.symm⟩
    omega) (by simp) 0 0 now 0) fun w3 r w4 hw3 ⟨vm, hr, hE4, M4, O4, E4, hF4, hM4, hG4, hO4, hE4'⟩ => ?_
  rw [hoff] at hr hF4 hG4
  dsimp only at hr hF4 hG4
  subst hr
  obtain ⟨ws4, rfl, hFw4, hl84, how4⟩ := RMsg.open_ hF4
  have s23 := hw3.ext.size
  have s34 := hE4.size
  have hGn : ∀ q, GB g gb O4 q ∨ E4 q → W.heap.size ≤ q ∧ q ≠ b3 := fun q hq => by
    rcases hq with (rfl | rfl | h) | h
    · omega
    · omega
    · rcases hO4 q h with h1 | h1
      · have h4 : q = gl := h1
        omega
      · omega
    · rcases hE4' q h with h1 | h1
      · exact h1.elim
      · omega
  have hg2 : ∀ q, GB g gb (fun q => q = gl) q → W.heap.size ≤ q ∧ q ≠ b3 := fun q hq => by
    rcases hq with h | h | h
    · omega
    · omega
    · have h4 : q = gl := h
      omega
  have hX4 : Ext No W w4 := (hX2.then hw3.ext fun q h1 h2 => by omega).then hE4 fun q h1 h2 => by have := hg2 q h2; omega
  have hB3 := (hw3.has _ (.tail _ (.head _))).keep hE4 fun h => (hg2 _ h).2 rfl
  have hlt4 : ∀ {q : Nat}, GB g gb O4 q ∨ E4 q → q < w4.heap.size := fun hq => hG4.lt hq
  refine GL.of_JL (C := Cls w4 (fun q => q = b3) [_]) (Cls.start1 hB3) ?_
  unfold msgC
  repeat (first | (apply JL.y; (first | (apply Y_move; rfl) | (apply Y_assign; rfl) | (apply Y_extract; rfl; rfl)); rfl) | refine J.seq ?_ | refine J.region ?_ | refine JL.nil ?_ | (apply JL.alloc; rfl; rfl; intro _) | (apply JL.store; (apply St_W 0; rfl; rfl; rfl; exact inferInstance; rfl; rfl; (first | (focus (simp [Value.oneCell']; done)) | (simp [Value.oneCell']; assumption) | (simp [Value.oneCell']; exact ⟨by assumption, by assumption⟩)); (first | (focus (simp only [List.set_cons_zero]; done)) | (simp only [List.set_cons_zero]; rfl)))))
  rename_i b8
  apply JL.y (Y_conv rfl) rfl
  apply JL.y (Y_rem rfl rfl (by decide)) rfl
  rw [← hnn]
  repeat (first | (apply JL.y; (first | (apply Y_move; rfl) | (apply Y_assign; rfl) | (apply Y_add; rfl; rfl; omega) | (apply Y_convI; rfl; omega)); rfl) | refine J.seq ?_ | refine J.region ?_ | refine JL.nil ?_)
  refine JL.call _ rfl rfl (fun w5 hw5 => gSweep_spec (hG4.ext hw5.ext fun q hq h' => (hGn q hq).2 h') (now + n)) fun w5 r w6 hw5 ⟨zs, hOw, hn6, hz6, hT6⟩ => ?_
  have hG5 := hG4.ext hw5.ext fun q hq h' => (hGn q hq).2 h'
  have hGT := hG5.lane hT6
  obtain ⟨hE6, O6, E6, hG6, hO6', hE6'⟩ := hGT
  have s45 := hw5.ext.size
  have s56 := hT6.1.size
  have b8l : w4.heap.size ≤ b8 := hw5.fresh fun q h => ⟨_, .head _, h.symm⟩
  have hO4l : ∀ q, O4 q → q < w4.heap.size := fun q hq => hlt4 (.inl (.inr (.inr hq)))
  have b8u := (hw5.has _ (.head _)).lt
  simp only at b8u
  have hB8 := (hw5.has _ (.head _)).keep hT6.1 fun h => by have := hO4l _ h; simp only at this; omega
  have hB3 := (hw5.has _ (.tail _ (.head _))).keep hT6.1 fun h => (hGn _ (.inl (.inr (.inr h)))).2 rfl
  have hFm := (hFw4.ext hw5.ext fun q _ h1 h2 => by have := hM4 q h1; omega).ext hT6.1 fun q _ h1 h2 => (hM4 q h1).2.1 h2
  have hX6 : Ext No W w6 := (hX4.then hw5.ext fun q h1 h2 => by omega).then hT6.1 fun q h1 h2 => by have := hGn q (.inl (.inr (.inr h2))); omega
  have hsrt : St.srt Msg.lane [m] = [m] := rfl
  rw [hsrt] at hz6 hT6 hG6
  have hz6' : zs.map (·.2) = if kg.life ≤ n then [m] else [] := by rw [hz6]; simp only [List.filter_cons, List.filter_nil, hlt]; split <;> simp_all
  have hms : ([m].filter fun m => !late (now + n) m) = if kg.life ≤ n then [] else [m] := by simp only [List.filter_cons, List.filter_nil, hlt]; split <;> simp_all
  rw [hms] at hG6
  have hz4 : m.late = now + kg.life := by rw [hm]
  have hz5 : m.stamp = now := by rw [hm]
  obtain ⟨As, cs, hr, hcap, hmx⟩ := hOw.slice
  subst hr
  have st6 : ∀ {H' : List Blk} {w' : World}, Cls w6 (fun q => q = b8 ∨ q = b3) H' w' → (⟨b8, msgC ws4 m, 33⟩ : Blk) ∈ H' → (⟨b3, chC kg, 61⟩ : Blk) ∈ H' → Ext No w6 w' := fun h h1 h2 => h.still fun q hq => hq.elim (fun hq => ⟨_, h1, hq.symm, hB8⟩) fun hq => ⟨_, h2, hq.symm, hB3⟩
  unfold msgC chC at st6
  refine GL.of_JL (C := Cls w6 (fun q => q = b8 ∨ q = b3) [_, _]) (Cls.start2 hB8 hB3 (by simp only; omega)) ?_
  repeat (first | (apply JL.y; (first | (apply Y_move; rfl) | (apply Y_assign; rfl) | (apply Y_fieldAddr; rfl; rfl) | (apply Y_load1 1; rfl; rfl; rfl; exact inferInstance) | (apply Y_geq; rfl; rfl)); rfl) | refine J.seq ?_ | refine J.region ?_ | refine JL.nil ?_)
  by_cases hl : kg.life ≤ n
  · rw [if_pos hl] at hz6' hG6
    have hzl : zs.length = 1 := by simpa using congrArg List.length hz6'
    obtain ⟨z, hz, hzm⟩ : ∃ z, zs = [z] ∧ z.2 = m := by
      match zs, hz6' with
      | [z], h => exact ⟨z, rfl, by simpa using h⟩
    have hRd := hOw.reads
    obtain ⟨ad, _, e1⟩ := hRd.base (by omega) (by omega)
    cases e1
    have hx0 : zs[0]? = some z := by rw [hz]; rfl
    have l1 := hRd.lds (P := Try.prog) (t := 33) hx0
    obtain ⟨wz, hwz, hFz, _, _⟩ := MsgC.open_ (hRd.el z (by rw [hz]; simp))
    rw [hzm] at hFz hwz
    rw [hwz] at l1
    rw [decide_eq_true hl]
    refine J.draw (S := Cls _ _ _) [] #[false, false, false, false, false, false, false, false, false, false, false, false, false, false, false, false, false, false, false, false, false, false, false, false, false, false, false, false, false, false, false, false, false, false, false, false, false, false, false, false, false, false, false] rfl rfl (fun w hw => hw.drew) (fun w hS => ?_)
    (apply DR.pure 0 #[true, false, false, false, false, false, false, false, false, false, false, false, false, false, false, false, false, false, false, false, false, false, false, false, false, false, false, false, false, false, false, false, false, false, false, false, false, false, false, false, false, false, false]; rfl; kernel_rfl; (apply Y_move; rfl); rfl)
    (apply DR.take 1 #[true, true, false, false, false, false, false, false, false, false, false, false, false, false, false, false, false, false, false, false, false, false, false, false, false, false, false, false, false, false, false, false, false, false, false, false, false, false, false, false, false, false, false]; rfl; kernel_rfl; exact Y_eql_t rfl rfl rfl; rfl; exact hS)
    (apply DR.pure 2 #[true, true, true, false, false, false, false, false, false, false, false, false, false, false, false, false, false, false, false, false, false, false, false, false, false, false, false, false, false, false, false, false, false, false, false, false, false, false, false, false, false, false, false]; rfl; kernel_rfl; (apply Y_move; rfl); rfl)
    (apply DR.pureG 3 #[true, true, true, true, false, false, false, false, false, false, false, false, false, false, false, false, false, false, false, false, false, false, false, false, false, false, false, false, false, false, false, false, false, false, false, false, false, false, false, false, false, false, false]; rfl; rfl; rfl; rfl; kernel_rfl; (apply Y_fieldAddr; rfl; rfl); rfl)
    (apply DR.takeG 4 #[true, true, true, true, true, false, false, false, false, false, false, false, false, false, false, false, false, false, false, false, false, false, false, false, false, false, false, false, false, false, false, false, false, false, false, false, false, false, false, false, false, false, false]; rfl; rfl; rfl; rfl; kernel_rfl; (first | (apply Y_load1 0; rfl; rfl; rfl; exact inferInstance) | (apply Y_load1 1; rfl; rfl; rfl; exact inferInstance) | (apply Y_load1 2; rfl; rfl; rfl; exact inferInstance) | (apply Y_load1 3; rfl; rfl; rfl; exact inferInstance) | (apply Y_loadW 0; rfl; rfl; exact inferInstance; rfl) | (apply Y_loadW 1; rfl; rfl; exact inferInstance; rfl) | (apply Y_loadW 2; rfl; rfl; exact inferInstance; rfl) | (apply Y_loadW 3; rfl; rfl; exact inferInstance; rfl)); rfl; exact hS)
    (apply DR.pureG 5 #[true, true, true, true, true, true, false, false, false, false, false, false, false, false, false, false, false, false, false, false, false, false, false, false, false, false, false, false, false, false, false, false, false, false, false, false, false, false, false, false, false, false, false]; rfl; rfl; rfl; rfl; kernel_rfl; (apply Y_move; rfl); rfl)
    (apply DR.takeG 6 #[true, true, true, true, true, true, true, false, false, false, false, false, false, false, false, false, false, false, false, false, false, false, false, false, false, false, false, false, false, false, false, false, false, false, false, false, false, false, false, false, false, false, false]; rfl; rfl; rfl; rfl; kernel_rfl; exact Y_eql_t rfl rfl hz5; rfl; exact hS)
    (apply DR.pure 7 #[true, true, true, true, true, true, true, true, false, false, false, false, false, false, false, false, false, false, false, false, false, false, false, false, false, false, false, false, false, false, false, false, false, false, false, false, false, false, false, false, false, false, false]; rfl; kernel_rfl; (first | (apply Y_pick_t; rfl; rfl) | (apply Y_pick_f; rfl; rfl)); rfl)
    (apply DR.pure 8 #[true, true, true, true, true, true, true, true, true, false, false, false, false, false, false, false, false, false, false, false, false, false, false, false, false, false, false, false, false, false, false, false, false, false, false, false, false, false, false, false, false, false, false]; rfl; kernel_rfl; (apply Y_move; rfl); rfl)
    (apply DR.pureG 9 #[true, true, true, true, true, true, true, true, true, true, false, false, false, false, false, false, false, false, false, false, false, false, false, false, false, false, false, false, false, false, false, false, false, false, false, false, false, false, false, false, false, false, false]; rfl; rfl; rfl; rfl; kernel_rfl; (apply Y_fieldAddr; rfl; rfl); rfl)
    (apply DR.takeG 10 #[true, true, true, true, true, true, true, true, true, true, true, false, false, false, false, false, false, false, false, false, false, false, false, false, false, false, false, false, false, false, false, false, false, false, false, false, false, false, false, false, false, false, false]; rfl; rfl; rfl; rfl; kernel_rfl; (first | (apply Y_load1 0; rfl; rfl; rfl; exact inferInstance) | (apply Y_load1 1; rfl; rfl; rfl; exact inferInstance) | (apply Y_load1 2; rfl; rfl; rfl; exact inferInstance) | (apply Y_load1 3; rfl; rfl; rfl; exact inferInstance) | (apply Y_loadW 0; rfl; rfl; exact inferInstance; rfl) | (apply Y_loadW 1; rfl; rfl; exact inferInstance; rfl) | (apply Y_loadW 2; rfl; rfl; exact inferInstance; rfl) | (apply Y_loadW 3; rfl; rfl; exact inferInstance; rfl)); rfl; exact hS)
    (apply DR.pureG 11 #[true, true, true, true, true, true, true, true, true, true, true, true, false, false, false, false, false, false, false, false, false, false, false, false, false, false, false, false, false, false, false, false, false, false, false, false, false, false, false, false, false, false, false]; rfl; rfl; rfl; rfl; kernel_rfl; (apply Y_move; rfl); rfl)
    (apply DR.pureG 12 #[true, true, true, true, true, true, true, true, true, true, true, true, true, false, false, false, false, false, false, false, false, false, false, false, false, false, false, false, false, false, false, false, false, false, false, false, false, false, false, false, false, false, false]; rfl; rfl; rfl; rfl; kernel_rfl; (apply Y_fieldAddr; rfl; rfl); rfl)
    (apply DR.takeG 13 #[true, true, true, true, true, true, true, true, true, true, true, true, true, true, false, false, false, false, false, false, false, false, false, false, false, false, false, false, false, false, false, false, false, false, false, false, false, false, false, false, false, false, false]; rfl; rfl; rfl; rfl; kernel_rfl; (first | (apply Y_load1 0; rfl; rfl; rfl; exact inferInstance) | (apply Y_load1 1; rfl; rfl; rfl; exact inferInstance) | (apply Y_load1 2; rfl; rfl; rfl; exact inferInstance) | (apply Y_load1 3; rfl; rfl; rfl; exact inferInstance) | (apply Y_loadW 0; rfl; rfl; exact inferInstance; rfl) | (apply Y_loadW 1; rfl; rfl; exact inferInstance; rfl) | (apply Y_loadW 2; rfl; rfl; exact inferInstance; rfl) | (apply Y_loadW 3; rfl; rfl; exact inferInstance; rfl)); rfl; exact hS)
    (apply DR.pureG 14 #[true, true, true, true, true, true, true, true, true, true, true, true, true, true, true, false, false, false, false, false, false, false, false, false, false, false, false, false, false, false, false, false, false, false, false, false, false, false, false, false, false, false, false]; rfl; rfl; rfl; rfl; kernel_rfl; (apply Y_add; rfl; rfl; omega); rfl)
    (apply DR.takeG 15 #[true, true, true, true, true, true, true, true, true, true, true, true, true, true, true, true, false, false, false, false, false, false, false, false, false, false, false, false, false, false, false, false, false, false, false, false, false, false, false, false, false, false, false]; rfl; rfl; rfl; rfl; kernel_rfl; exact Y_eql_t rfl rfl hz4; rfl; exact hS)
    (apply DR.pure 16 #[true, true, true, true, true, true, true, true, true, true, true, true, true, true, true, true, true, false, false, false, false, false, false, false, false, false, false, false, false, false, false, false, false, false, false, false, false, false, false, false, false, false, false]; rfl; kernel_rfl; (first | (apply Y_pick_t; rfl; rfl) | (apply Y_pick_f; rfl; rfl)); rfl)
    (apply DR.pure 17 #[true, true, true, true, true, true, true, true, true, true, true, true, true, true, true, true, true, true, false, false, false, false, false, false, false, false, false, false, false, false, false, false, false, false, false, false, false, false, false, false, false, false, false]; rfl; kernel_rfl; (apply Y_move; rfl); rfl)
    (apply DR.pureG 18 #[true, true, true, true, true, true, true, true, true, true, true, true, true, true, true, true, true, true, true, false, false, false, false, false, false, false, false, false, false, false, false, false, false, false, false, false, false, false, false, false, false, false, false]; rfl; rfl; rfl; rfl; kernel_rfl; (apply Y_move; rfl); rfl)
    (apply DR.pureG 19 #[true, true, true, true, true, true, true, true, true, true, true, true, true, true, true, true, true, true, true, true, false, false, false, false, false, false, false, false, false, false, false, false, false, false, false, false, false, false, false, false, false, false, false]; rfl; rfl; rfl; rfl; kernel_rfl; (apply Y_len; rfl); rfl)
    (apply DR.takeG 20 #[true, true, true, true, true, true, true, true, true, true, true, true, true, true, true, true, true, true, true, true, true, false, false, false, false, false, false, false, false, false, false, false, false, false, false, false, false, false, false, false, false, false, false]; rfl; rfl; rfl; rfl; kernel_rfl; exact Y_eql_t rfl rfl (by rw [hzl]; rfl); rfl; exact hS)
    (apply DR.pureG 21 #[true, true, true, true, true, true, true, true, true, true, true, true, true, true, true, true, true, true, true, true, true, true, false, false, false, false, false, false, false, false, false, false, false, false, false, false, false, false, false, false, false, false, false]; rfl; rfl; rfl; rfl; kernel_rfl; (apply Y_move; rfl); rfl)
    (apply DR.takeG 22 #[true, true, true, true, true, true, true, true, true, true, true, true, true, true, true, true, true, true, true, true, true, true, true, false, false, false, false, false, false, false, false, false, false, false, false, false, false, false, false, false, false, false, false]; rfl; rfl; rfl; rfl; kernel_rfl; exact Y_eqlB Try.underlying4 rfl rfl; rfl; exact hS)
    (apply DR.pure 23 #[true, true, true, true, true, true, true, true, true, true, true, true, true, true, true, true, true, true, true, true, true, true, true, true, false, false, false, false, false, false, false, false, false, false, false, false, false, false, false, false, false, false, false]; rfl; kernel_rfl; (first | (apply Y_pick_t; rfl; rfl) | (apply Y_pick_f; rfl; rfl)); rfl)
    (apply DR.pure 24 #[true, true, true, true, true, true, true, true, true, true, true, true, true, true, true, true, true, true, true, true, true, true, true, true, true, false, false, false, false, false, false, false, false, false, false, false, false, false, false, false, false, false, false]; rfl; kernel_rfl; (apply Y_move; rfl); rfl)
    (apply DR.pureG 25 #[true, true, true, true, true, true, true, true, true, true, true, true, true, true, true, true, true, true, true, true, true, true, true, true, true, true, false, false, false, false, false, false, false, false, false, false, false, false, false, false, false, false, false]; rfl; rfl; rfl; rfl; kernel_rfl; (apply Y_move; rfl); rfl)
    (apply DR.pureG 28 #[true, true, true, true, true, true, true, true, true, true, true, true, true, true, true, true, true, true, true, true, true, true, true, true, true, true, false, false, true, false, false, false, false, false, false, false, false, false, false, false, false, false, false]; rfl; rfl; rfl; rfl; kernel_rfl; (apply Y_move; rfl); rfl)
    refine DR.callqCG (v := .int .i64 0) (cap := []) 26 #[true, true, true, true, true, true, true, true, true, true, true, true, true, true, true, true, true, true, true, true, true, true, true, true, true, true, true, false, true, false, false, false, false, false, false, false, false, false, false, false, false, false, false] rfl rfl rfl rfl (by kernel_rfl) rfl rfl inferInstance rfl rfl (gLen_spec (hG6.ext0 (st6 hS (by simp) (by simp)))) (fun w' hw' => hS.ext0 hw') (fun w hE2 hS => ?_)
    (apply DR.takeG 27 #[true, true, true, true, true, true, true, true, true, true, true, true, true, true, true, true, true, true, true, true, true, true, true, true, true, true, true, true, true, false, false, false, false, false, false, false, false, false, false, false, false, false, false]; rfl; rfl; rfl; rfl; kernel_rfl; exact Y_eql_t rfl rfl rfl; rfl; exact hS)
    (apply DR.takeG 29 #[true, true, true, true, true, true, true, true, true, true, true, true, true, true, true, true, true, true, true, true, true, true, true, true, true, true, true, true, true, true, false, false, false, false, false, false, false, false, false, false, false, false, false]; rfl; rfl; rfl; rfl; kernel_rfl; exact Y_eqlB Try.underlying4 rfl rfl; rfl; exact hS)
    (apply DR.pure 30 #[true, true, true, true, true, true, true, true, true, true, true, true, true, true, true, true, true, true, true, true, true, true, true, true, true, true, true, true, true, true, true, false, false, false, false, false, false, false, false, false, false, false, false]; rfl; kernel_rfl; (first | (apply Y_pick_t; rfl; rfl) | (apply Y_pick_f; rfl; rfl)); rfl)
    (apply DR.pure 31 #[true, true, true, true, true, true, true, true, true, true, true, true, true, true, true, true, true, true, true, true, true, true, true, true, true, true, true, true, true, true, true, true, false, false, false, false, false, false, false, false, false, false, false]; rfl; kernel_rfl; (apply Y_move; rfl); rfl)
    (apply DR.pureG 32 #[true, true, true, true, true, true, true, true, true, true, true, true, true, true, true, true, true, true, true, true, true, true, true, true, true, true, true, true, true, true, true, true, true, false, false, false, false, false, false, false, false, false, false]; rfl; rfl; rfl; rfl; kernel_rfl; (apply Y_move; rfl); rfl)
    (apply DR.pureG 33 #[true, true, true, true, true, true, true, true, true, true, true, true, true, true, true, true, true, true, true, true, true, true, true, true, true, true, true, true, true, true, true, true, true, true, false, false, false, false, false, false, false, false, false]; rfl; rfl; rfl; rfl; kernel_rfl; (first | (apply Y_not_d; rfl) | (apply Y_not; rfl)); rfl)
    (apply DR.pureG 34 #[true, true, true, true, true, true, true, true, true, true, true, true, true, true, true, true, true, true, true, true, true, true, true, true, true, true, true, true, true, true, true, true, true, true, true, false, false, false, false, false, false, false, false]; rfl; rfl; rfl; rfl; kernel_rfl; (apply Y_move; rfl); rfl)
    (apply DR.pureG 35 #[true, true, true, true, true, true, true, true, true, true, true, true, true, true, true, true, true, true, true, true, true, true, true, true, true, true, true, true, true, true, true, true, true, true, true, true, false, false, false, false, false, false, false]; rfl; rfl; rfl; rfl; kernel_rfl; (apply Y_move; rfl); rfl)
    (apply DR.takeG 36 #[true, true, true, true, true, true, true, true, true, true, true, true, true, true, true, true, true, true, true, true, true, true, true, true, true, true, true, true, true, true, true, true, true, true, true, true, true, false, false, false, false, false, false]; rfl; rfl; rfl; rfl; kernel_rfl; exact Y_indexAddr rfl rfl (by rw [hzl]; decide); rfl; exact hS)
    (apply DR.takeG 37 #[true, true, true, true, true, true, true, true, true, true, true, true, true, true, true, true, true, true, true, true, true, true, true, true, true, true, true, true, true, true, true, true, true, true, true, true, true, true, false, false, false, false, false]; rfl; rfl; rfl; rfl; kernel_rfl; exact Y_loadP rfl fun w hw => l1.at_ (st6 hw (by simp) (by simp)) fun _ _ _ h => h; rfl; exact hS)
    (apply DR.takeG 38 #[true, true, true, true, true, true, true, true, true, true, true, true, true, true, true, true, true, true, true, true, true, true, true, true, true, true, true, true, true, true, true, true, true, true, true, true, true, true, true, false, false, false, false]; rfl; rfl; rfl; rfl; kernel_rfl; (first | (apply Y_load1 0; rfl; rfl; rfl; exact inferInstance) | (apply Y_load1 1; rfl; rfl; rfl; exact inferInstance) | (apply Y_load1 2; rfl; rfl; rfl; exact inferInstance) | (apply Y_load1 3; rfl; rfl; rfl; exact inferInstance) | (apply Y_loadW 0; rfl; rfl; exact inferInstance; rfl) | (apply Y_loadW 1; rfl; rfl; exact inferInstance; rfl) | (apply Y_loadW 2; rfl; rfl; exact inferInstance; rfl) | (apply Y_loadW 3; rfl; rfl; exact inferInstance; rfl)); rfl; exact hS)
    refine DR.callqCG (v := .bool true) (cap := []) 39 #[true, true, true, true, true, true, true, true, true, true, true, true, true, true, true, true, true, true, true, true, true, true, true, true, true, true, true, true, true, true, true, true, true, true, true, true, true, true, true, true, false, false, false] rfl rfl rfl rfl (by kernel_rfl) rfl rfl inferInstance rfl rfl (one_true (m := m) (RMsg.mk (hFz.ext0 (st6 hS (by simp) (by simp))) hl84) (RMsg.mk (hFm.ext0 (st6 hS (by simp) (by simp))) hl84)) (fun w' hw' => hS.ext0 hw') (fun w hE2 hS => ?_)
    (apply DR.pureG 40 #[true, true, true, true, true, true, true, true, true, true, true, true, true, true, true, true, true, true, true, true, true, true, true, true, true, true, true, true, true, true, true, true, true, true, true, true, true, true, true, true, true, false, false]; rfl; rfl; rfl; rfl; kernel_rfl; (first | (apply Y_pick_t; rfl; rfl) | (apply Y_pick_f; rfl; rfl)); rfl)
    (apply DR.pure 41 #[true, true, true, true, true, true, true, true, true, true, true, true, true, true, true, true, true, true, true, true, true, true, true, true, true, true, true, true, true, true, true, true, true, true, true, true, true, true, true, true, true, true, false]; rfl; kernel_rfl; (first | (apply Y_pick_t; rfl; rfl) | (apply Y_pick_f; rfl; rfl)); rfl)
    (apply DR.pure 42 #[true, true, true, true, true, true, true, true, true, true, true, true, true, true, true, true, true, true, true, true, true, true, true, true, true, true, true, true, true, true, true, true, true, true, true, true, true, true, true, true, true, true, true]; rfl; kernel_rfl; (apply Y_assign; rfl); rfl)
    refine DR.done (by kernel_rfl) ?_
    refine J.at (C := Cls _ _ _) ?_ hS
    skip
    exact J.ret1 Try.func7 Try.results7 (RV.tm rfl) fun w' hw' => ⟨rfl, hX6.trans (st6 hw' (by simp) (by simp))⟩
  · rw [if_neg hl] at hz6' hG6
    have hzl : zs.length = 0 := by simpa using congrArg List.length hz6'
    rw [decide_eq_false hl]
    refine J.draw (S := Cls _ _ _) [] #[false, false, false, false, false, false, false, false, false, false, false, false, false, false, false, false, false, false, false, false, false, false, false, false, false, false, false, false, false, false, false, false, false, false, false, false, false, false, false, false, false, false, false] rfl rfl (fun w hw => hw.drew) (fun w hS => ?_)
    (apply DR.pure 0 #[true, false, false, false, false, false, false, false, false, false, false, false, false, false, false, false, false, false, false, false, false, false, false, false, false, false, false, false, false, false, false, false, false, false, false, false, false, false, false, false, false, false, false]; rfl; kernel_rfl; (apply Y_move; rfl); rfl)
    (apply DR.take 1 #[true, true, false, false, false, false, false, false, false, false, false, false, false, false, false, false, false, false, false, false, false, false, false, false, false, false, false, false, false, false, false, false, false, false, false, false, false, false, false, false, false, false, false]; rfl; kernel_rfl; exact Y_eql_t rfl rfl rfl; rfl; exact hS)
    (apply DR.pure 2 #[true, true, true, false, false, false, false, false, false, false, false, false, false, false, false, false, false, false, false, false, false, false, false, false, false, false, false, false, false, false, false, false, false, false, false, false, false, false, false, false, false, false, false]; rfl; kernel_rfl; (apply Y_move; rfl); rfl)
    (apply DR.pureG 3 #[true, true, true, true, false, false, false, false, false, false, false, false, false, false, false, false, false, false, false, false, false, false, false, false, false, false, false, false, false, false, false, false, false, false, false, false, false, false, false, false, false, false, false]; rfl; rfl; rfl; rfl; kernel_rfl; (apply Y_fieldAddr; rfl; rfl); rfl)
    (apply DR.takeG 4 #[true, true, true, true, true, false, false, false, false, false, false, false, false, false, false, false, false, false, false, false, false, false, false, false, false, false, false, false, false, false, false, false, false, false, false, false, false, false, false, false, false, false, false]; rfl; rfl; rfl; rfl; kernel_rfl; (first | (apply Y_load1 0; rfl; rfl; rfl; exact inferInstance) | (apply Y_load1 1; rfl; rfl; rfl; exact inferInstance) | (apply Y_load1 2; rfl; rfl; rfl; exact inferInstance) | (apply Y_load1 3; rfl; rfl; rfl; exact inferInstance) | (apply Y_loadW 0; rfl; rfl; exact inferInstance; rfl) | (apply Y_loadW 1; rfl; rfl; exact inferInstance; rfl) | (apply Y_loadW 2; rfl; rfl; exact inferInstance; rfl) | (apply Y_loadW 3; rfl; rfl; exact inferInstance; rfl)); rfl; exact hS)
    (apply DR.pureG 5 #[true, true, true, true, true, true, false, false, false, false, false, false, false, false, false, false, false, false, false, false, false, false, false, false, false, false, false, false, false, false, false, false, false, false, false, false, false, false, false, false, false, false, false]; rfl; rfl; rfl; rfl; kernel_rfl; (apply Y_move; rfl); rfl)
    (apply DR.takeG 6 #[true, true, true, true, true, true, true, false, false, false, false, false, false, false, false, false, false, false, false, false, false, false, false, false, false, false, false, false, false, false, false, false, false, false, false, false, false, false, false, false, false, false, false]; rfl; rfl; rfl; rfl; kernel_rfl; exact Y_eql_t rfl rfl hz5; rfl; exact hS)
    (apply DR.pure 7 #[true, true, true, true, true, true, true, true, false, false, false, false, false, false, false, false, false, false, false, false, false, false, false, false, false, false, false, false, false, false, false, false, false, false, false, false, false, false, false, false, false, false, false]; rfl; kernel_rfl; (first | (apply Y_pick_t; rfl; rfl) | (apply Y_pick_f; rfl; rfl)); rfl)
    (apply DR.pure 8 #[true, true, true, true, true, true, true, true, true, false, false, false, false, false, false, false, false, false, false, false, false, false, false, false, false, false, false, false, false, false, false, false, false, false, false, false, false, false, false, false, false, false, false]; rfl; kernel_rfl; (apply Y_move; rfl); rfl)
    (apply DR.pureG 9 #[true, true, true, true, true, true, true, true, true, true, false, false, false, false, false, false, false, false, false, false, false, false, false, false, false, false, false, false, false, false, false, false, false, false, false, false, false, false, false, false, false, false, false]; rfl; rfl; rfl; rfl; kernel_rfl; (apply Y_fieldAddr; rfl; rfl); rfl)
    (apply DR.takeG 10 #[true, true, true, true, true, true, true, true, true, true, true, false, false, false, false, false, false, false, false, false, false, false, false, false, false, false, false, false, false, false, false, false, false, false, false, false, false, false, false, false, false, false, false]; rfl; rfl; rfl; rfl; kernel_rfl; (first | (apply Y_load1 0; rfl; rfl; rfl; exact inferInstance) | (apply Y_load1 1; rfl; rfl; rfl; exact inferInstance) | (apply Y_load1 2; rfl; rfl; rfl; exact inferInstance) | (apply Y_load1 3; rfl; rfl; rfl; exact inferInstance) | (apply Y_loadW 0; rfl; rfl; exact inferInstance; rfl) | (apply Y_loadW 1; rfl; rfl; exact inferInstance; rfl) | (apply Y_loadW 2; rfl; rfl; exact inferInstance; rfl) | (apply Y_loadW 3; rfl; rfl; exact inferInstance; rfl)); rfl; exact hS)
    (apply DR.pureG 11 #[true, true, true, true, true, true, true, true, true, true, true, true, false, false, false, false, false, false, false, false, false, false, false, false, false, false, false, false, false, false, false, false, false, false, false, false, false, false, false, false, false, false, false]; rfl; rfl; rfl; rfl; kernel_rfl; (apply Y_move; rfl); rfl)
    (apply DR.pureG 12 #[true, true, true, true, true, true, true, true, true, true, true, true, true, false, false, false, false, false, false, false, false, false, false, false, false, false, false, false, false, false, false, false, false, false, false, false, false, false, false, false, false, false, false]; rfl; rfl; rfl; rfl; kernel_rfl; (apply Y_fieldAddr; rfl; rfl); rfl)
    (apply DR.takeG 13 #[true, true, true, true, true, true, true, true, true, true, true, true, true, true, false, false, false, false, false, false, false, false, false, false, false, false, false, false, false, false, false, false, false, false, false, false, false, false, false, false, false, false, false]; rfl; rfl; rfl; rfl; kernel_rfl; (first | (apply Y_load1 0; rfl; rfl; rfl; exact inferInstance) | (apply Y_load1 1; rfl; rfl; rfl; exact inferInstance) | (apply Y_load1 2; rfl; rfl; rfl; exact inferInstance) | (apply Y_load1 3; rfl; rfl; rfl; exact inferInstance) | (apply Y_loadW 0; rfl; rfl; exact inferInstance; rfl) | (apply Y_loadW 1; rfl; rfl; exact inferInstance; rfl) | (apply Y_loadW 2; rfl; rfl; exact inferInstance; rfl) | (apply Y_loadW 3; rfl; rfl; exact inferInstance; rfl)); rfl; exact hS)
    (apply DR.pureG 14 #[true, true, true, true, true, true, true, true, true, true, true, true, true, true, true, false, false, false, false, false, false, false, false, false, false, false, false, false, false, false, false, false, false, false, false, false, false, false, false, false, false, false, false]; rfl; rfl; rfl; rfl; kernel_rfl; (apply Y_add; rfl; rfl; omega); rfl)
    (apply DR.takeG 15 #[true, true, true, true, true, true, true, true, true, true, true, true, true, true, true, true, false, false, false, false, false, false, false, false, false, false, false, false, false, false, false, false, false, false, false, false, false, false, false, false, false, false, false]; rfl; rfl; rfl; rfl; kernel_rfl; exact Y_eql_t rfl rfl hz4; rfl; exact hS)
    (apply DR.pure 16 #[true, true, true, true, true, true, true, true, true, true, true, true, true, true, true, true, true, false, false, false, false, false, false, false, false, false, false, false, false, false, false, false, false, false, false, false, false, false, false, false, false, false, false]; rfl; kernel_rfl; (first | (apply Y_pick_t; rfl; rfl) | (apply Y_pick_f; rfl; rfl)); rfl)
    (apply DR.pure 17 #[true, true, true, true, true, true, true, true, true, true, true, true, true, true, true, true, true, true, false, false, false, false, false, false, false, false, false, false, false, false, false, false, false, false, false, false, false, false, false, false, false, false, false]; rfl; kernel_rfl; (apply Y_move; rfl); rfl)
    (apply DR.pureG 18 #[true, true, true, true, true, true, true, true, true, true, true, true, true, true, true, true, true, true, true, false, false, false, false, false, false, false, false, false, false, false, false, false, false, false, false, false, false, false, false, false, false, false, false]; rfl; rfl; rfl; rfl; kernel_rfl; (apply Y_move; rfl); rfl)
    (apply DR.pureG 19 #[true, true, true, true, true, true, true, true, true, true, true, true, true, true, true, true, true, true, true, true, false, false, false, false, false, false, false, false, false, false, false, false, false, false, false, false, false, false, false, false, false, false, false]; rfl; rfl; rfl; rfl; kernel_rfl; (apply Y_len; rfl); rfl)
    (apply DR.takeG 20 #[true, true, true, true, true, true, true, true, true, true, true, true, true, true, true, true, true, true, true, true, true, false, false, false, false, false, false, false, false, false, false, false, false, false, false, false, false, false, false, false, false, false, false]; rfl; rfl; rfl; rfl; kernel_rfl; exact Y_eql_f rfl rfl (by rw [hzl]; decide); rfl; exact hS)
    (apply DR.pureG 21 #[true, true, true, true, true, true, true, true, true, true, true, true, true, true, true, true, true, true, true, true, true, true, false, false, false, false, false, false, false, false, false, false, false, false, false, false, false, false, false, false, false, false, false]; rfl; rfl; rfl; rfl; kernel_rfl; (apply Y_move; rfl); rfl)
    (apply DR.takeG 22 #[true, true, true, true, true, true, true, true, true, true, true, true, true, true, true, true, true, true, true, true, true, true, true, false, false, false, false, false, false, false, false, false, false, false, false, false, false, false, false, false, false, false, false]; rfl; rfl; rfl; rfl; kernel_rfl; exact Y_eqlB Try.underlying4 rfl rfl; rfl; exact hS)
    (apply DR.pure 23 #[true, true, true, true, true, true, true, true, true, true, true, true, true, true, true, true, true, true, true, true, true, true, true, true, false, false, false, false, false, false, false, false, false, false, false, false, false, false, false, false, false, false, false]; rfl; kernel_rfl; (first | (apply Y_pick_t; rfl; rfl) | (apply Y_pick_f; rfl; rfl)); rfl)
    (apply DR.pure 24 #[true, true, true, true, true, true, true, true, true, true, true, true, true, true, true, true, true, true, true, true, true, true, true, true, true, false, false, false, false, false, false, false, false, false, false, false, false, false, false, false, false, false, false]; rfl; kernel_rfl; (apply Y_move; rfl); rfl)
    (apply DR.pureG 25 #[true, true, true, true, true, true, true, true, true, true, true, true, true, true, true, true, true, true, true, true, true, true, true, true, true, true, false, false, false, false, false, false, false, false, false, false, false, false, false, false, false, false, false]; rfl; rfl; rfl; rfl; kernel_rfl; (apply Y_move; rfl); rfl)
    (apply DR.pureG 28 #[true, true, true, true, true, true, true, true, true, true, true, true, true, true, true, true, true, true, true, true, true, true, true, true, true, true, false, false, true, false, false, false, false, false, false, false, false, false, false, false, false, false, false]; rfl; rfl; rfl; rfl; kernel_rfl; (apply Y_move; rfl); rfl)
    refine DR.callqCG (v := .int .i64 1) (cap := []) 26 #[true, true, true, true, true, true, true, true, true, true, true, true, true, true, true, true, true, true, true, true, true, true, true, true, true, true, true, false, true, false, false, false, false, false, false, false, false, false, false, false, false, false, false] rfl rfl rfl rfl (by kernel_rfl) rfl rfl inferInstance rfl rfl (gLen_spec (hG6.ext0 (st6 hS (by simp) (by simp)))) (fun w' hw' => hS.ext0 hw') (fun w hE2 hS => ?_)
    (apply DR.takeG 27 #[true, true, true, true, true, true, true, true, true, true, true, true, true, true, true, true, true, true, true, true, true, true, true, true, true, true, true, true, true, false, false, false, false, false, false, false, false, false, false, false, false, false, false]; rfl; rfl; rfl; rfl; kernel_rfl; exact Y_eql_f rfl rfl (by decide); rfl; exact hS)
    (apply DR.takeG 29 #[true, true, true, true, true, true, true, true, true, true, true, true, true, true, true, true, true, true, true, true, true, true, true, true, true, true, true, true, true, true, false, false, false, false, false, false, false, false, false, false, false, false, false]; rfl; rfl; rfl; rfl; kernel_rfl; exact Y_eqlB Try.underlying4 rfl rfl; rfl; exact hS)
    (apply DR.pure 30 #[true, true, true, true, true, true, true, true, true, true, true, true, true, true, true, true, true, true, true, true, true, true, true, true, true, true, true, true, true, true, true, false, false, false, false, false, false, false, false, false, false, false, false]; rfl; kernel_rfl; (first | (apply Y_pick_t; rfl; rfl) | (apply Y_pick_f; rfl; rfl)); rfl)
    (apply DR.pure 31 #[true, true, true, true, true, true, true, true, true, true, true, true, true, true, true, true, true, true, true, true, true, true, true, true, true, true, true, true, true, true, true, true, false, false, false, false, false, false, false, false, false, false, false]; rfl; kernel_rfl; (apply Y_move; rfl); rfl)
    (apply DR.pureG 32 #[true, true, true, true, true, true, true, true, true, true, true, true, true, true, true, true, true, true, true, true, true, true, true, true, true, true, true, true, true, true, true, true, true, false, false, false, false, false, false, false, false, false, false]; rfl; rfl; rfl; rfl; kernel_rfl; (apply Y_move; rfl); rfl)
    (apply DR.pureG 33 #[true, true, true, true, true, true, true, true, true, true, true, true, true, true, true, true, true, true, true, true, true, true, true, true, true, true, true, true, true, true, true, true, true, true, false, false, false, false, false, false, false, false, false]; rfl; rfl; rfl; rfl; kernel_rfl; (first | (apply Y_not_d; rfl) | (apply Y_not; rfl)); rfl)
    (apply DR.pureG 34 #[true, true, true, true, true, true, true, true, true, true, true, true, true, true, true, true, true, true, true, true, true, true, true, true, true, true, true, true, true, true, true, true, true, true, true, false, false, false, false, false, false, false, false]; rfl; rfl; rfl; rfl; kernel_rfl; (apply Y_move; rfl); rfl)
    (apply DR.not 35 #[true, true, true, true, true, true, true, true, true, true, true, true, true, true, true, true, true, true, true, true, true, true, true, true, true, true, true, true, true, true, true, true, true, true, true, true, false, false, false, false, false, false, false]; rfl; rfl; rfl; rfl; rfl; kernel_rfl; rfl)
    (apply DR.not 36 #[true, true, true, true, true, true, true, true, true, true, true, true, true, true, true, true, true, true, true, true, true, true, true, true, true, true, true, true, true, true, true, true, true, true, true, true, true, false, false, false, false, false, false]; rfl; rfl; rfl; rfl; rfl; kernel_rfl; rfl)
    (apply DR.not 37 #[true, true, true, true, true, true, true, true, true, true, true, true, true, true, true, true, true, true, true, true, true, true, true, true, true, true, true, true, true, true, true, true, true, true, true, true, true, true, false, false, false, false, false]; rfl; rfl; rfl; rfl; rfl; kernel_rfl; rfl)
    (apply DR.not 38 #[true, true, true, true, true, true, true, true, true, true, true, true, true, true, true, true, true, true, true, true, true, true, true, true, true, true, true, true, true, true, true, true, true, true, true, true, true, true, true, false, false, false, false]; rfl; rfl; rfl; rfl; rfl; kernel_rfl; rfl)
    (apply DR.not 39 #[true, true, true, true, true, true, true, true, true, true, true, true, true, true, true, true, true, true, true, true, true, true, true, true, true, true, true, true, true, true, true, true, true, true, true, true, true, true, true, true, false, false, false]; rfl; rfl; rfl; rfl; rfl; kernel_rfl; rfl)
    (apply DR.pureG 40 #[true, true, true, true, true, true, true, true, true, true, true, true, true, true, true, true, true, true, true, true, true, true, true, true, true, true, true, true, true, true, true, true, true, true, true, true, true, true, true, true, true, false, false]; rfl; rfl; rfl; rfl; kernel_rfl; (first | (apply Y_pick_t; rfl; rfl) | (apply Y_pick_f; rfl; rfl)); rfl)
    (apply DR.pure 41 #[true, true, true, true, true, true, true, true, true, true, true, true, true, true, true, true, true, true, true, true, true, true, true, true, true, true, true, true, true, true, true, true, true, true, true, true, true, true, true, true, true, true, false]; rfl; kernel_rfl; (first | (apply Y_pick_t; rfl; rfl) | (apply Y_pick_f; rfl; rfl)); rfl)
    (apply DR.pure 42 #[true, true, true, true, true, true, true, true, true, true, true, true, true, true, true, true, true, true, true, true, true, true, true, true, true, true, true, true, true, true, true, true, true, true, true, true, true, true, true, true, true, true, true]; rfl; kernel_rfl; (apply Y_assign; rfl); rfl)
    refine DR.done (by kernel_rfl) ?_
    refine J.at (C := Cls _ _ _) ?_ hS
    skip
    exact J.ret1 Try.func7 Try.results7 (RV.tm rfl) fun w' hw' => ⟨rfl, hX6.trans (st6 hw' (by simp) (by simp))⟩
end Go.Proofs.Ytmkpbbdocndfbaa
