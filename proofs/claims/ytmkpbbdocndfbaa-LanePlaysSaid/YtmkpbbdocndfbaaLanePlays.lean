/- law 10: LanePlays, the walk. -/
import Derived.Test.YtmkpbbdocndfbaaPlayS
namespace Go.Proofs.Ytmkpbbdocndfbaa
open Go.RowKit Go.Proofs
attribute [local irreducible] Yl JL J G GL GA GQ DR DRA

/-- What holds between two steps: b8 has the document's lanes. -/
structure PSt (W w : World) (g b8 : Nat) (O E K : Nat → Prop) (ln pl : Int) (ms : List Msg) (v : Value) (zs : Zs) : Prop where
  lr : LR W w g O E K ln pl ms v zs
  x : Ext No W w
  b : BlkIn w ⟨b8, rlC ln pl v, 28⟩
  nb : ∀ k, O k ∨ E k ∨ K k → k ≠ b8
theorem PSt.ext0 {W w w' : World} {g b8 : Nat} {O E K : Nat → Prop} {ln pl : Int} {ms : List Msg} {v : Value} {zs : Zs} (h : PSt W w g b8 O E K ln pl ms v zs) (he : Ext No w w') : PSt W w' g b8 O E K ln pl ms v zs := ⟨h.lr.ext0 he, h.x.trans he, h.b.ext0 he, h.nb⟩

set_option maxHeartbeats 4000000 in
theorem lanePlays10_walk {W : World} {ln pl : Int} {va : Value} {za : List (List Value × Stp)} (ha : Rd 7 StpC W All va za) :
    Calls Try.prog 3 #[.int .i64 ln, .int .i64 pl, va] W fun e w' => e = .returned (.bool true) ∧ Ext No W w' := by
  obtain ⟨A, c, rfl, hca, hma⟩ := ha.slice
  refine Calls.of_G3 Try.func3 rfl Try.ntmps3 rfl ?_
  refine J.at (C := Cls W No []) ?_ (Cls.start _ _)
  repeat (first | (apply JL.y; (first | (apply Y_assign; rfl) | (apply Y_not; rfl)); rfl) | refine J.seq ?_ | refine J.region ?_ | refine JL.nil ?_ | (apply JL.callq; rfl; rfl; (intro wc hwc; first | exact lives10_spec _)))
  apply J.cond_f rfl
  repeat (first | (apply JL.y; (apply Y_move; rfl); rfl) | refine J.seq ?_ | refine J.region ?_ | refine J.skip ?_)
  refine JL.call _ rfl rfl (fun w1 hw1 => laneNew_spec) fun w1 r w2 hw1 ⟨g, hr, hE2, hg, hL2⟩ => ?_
  subst hr
  have hX2 : Ext No W w2 := hw1.ext.trans hE2
  have hs1 := hw1.ext.size
  obtain ⟨ln', hln⟩ : ∃ x, x = cl 1 3 ln := ⟨_, rfl⟩
  obtain ⟨pl', hpl⟩ : ∃ x, x = cl 1 8 pl := ⟨_, rfl⟩
  rw [← hln, ← hpl] at hL2
  refine GL.of_JL (C := Cls w2 No []) (Cls.start _ _) ?_
  repeat (first | (apply JL.y; (first | (apply Y_move; rfl) | (apply Y_assign; rfl)); rfl) | (apply JL.callq; rfl; rfl; (intro wc hwc; first | exact rNew_spec _ _ _ | exact early10_spec hca _)) | (apply JL.alloc; rfl; rfl; intro _))
  rw [← hln, ← hpl]
  unfold rlC
  repeat (first | (apply JL.y; (first | (apply Y_move; rfl) | (apply Y_assign; rfl)); rfl) | refine J.seq ?_ | refine J.region ?_ | refine JL.nil ?_ | (apply JL.callq; rfl; rfl; (intro wc hwc; first | exact early10_spec hca _)) | (apply JL.store; (apply St_W 0; rfl; rfl; rfl; exact inferInstance; rfl; rfl; (first | (focus (simp [Value.oneCell']; done)) | (simp [Value.oneCell']; assumption) | (simp [Value.oneCell']; exact ⟨by assumption, by assumption⟩)); (first | (focus (simp only [List.set_cons_zero]; done)) | (simp only [List.set_cons_zero]; rfl)))) | refine J.block ?_)
  rename_i b8
  refine J.intro fun wl hwl => ?_
  have b8l : w2.heap.size ≤ b8 := hwl.fresh fun _ h => h.elim
  have hgl := hL2.lt g (.inl rfl)
  have sx2 := hX2.size
  obtain ⟨n, hn⟩ : ∃ n, n = min za.length 80 := ⟨_, rfl⟩
  have hnl : n ≤ za.length := by omega
  have hs : Rd 7 StpC W All (.slice A n c) (za.take n) := ha.take hnl
  have htl : (za.take n).length = n := by rw [List.length_take]; omega
  obtain ⟨steps, hst⟩ : ∃ s, s = za.take n := ⟨_, rfl⟩
  rw [← hst] at hs htl
  rw [← hn]
  have hb8 := hwl.has _ (.head _)
  have hP0 : PSt W wl g b8 (fun k => k = g) No No ln' pl' [] (.slice none 0 0) [] := by
    refine ⟨⟨hL2.ext0 hwl.ext, Rd.nil _ _ _ _, rfl, fun k h => h.elim, fun k h => h.elim, fun k hk => ?_⟩, hX2.trans hwl.ext, hb8, fun k hk => ?_⟩
    · rcases hk with rfl | hk
      · omega
      · exact hk.elim
    · rcases hk with rfl | hk | hk
      · omega
      · exact hk.elim
      · exact hk.elim
  refine G.loop (Inv := fun mm e wl => ∃ (i : Nat) (v : Value) (zs : Zs) (O E K : Nat → Prop) (ms : List Msg), i ≤ n ∧ mm = n - i ∧ PSt W wl g b8 O E K ln' pl' ms v zs ∧ e = [(2, .slice A n c), (7, .pointer (some ⟨g, 0, none⟩)), (8, .pointer (some ⟨b8, 0, none⟩)), (9, .int .i64 i)])
    _ _ ⟨0, _, _, _, _, _, _, Nat.zero_le _, rfl, hP0, rfl⟩ ⟨rfl, rfl, rfl, rfl, trivial⟩ ?_
  clear hP0 hb8 hL2
  rintro mm e w1 ⟨i, v, zs, O, E, K, ms, hi, rfl, hP, rfl⟩ ih
  refine J.at (C := Cls w1 (fun k => k = b8) [_]) ?_ (Cls.start1 hP.b)
  repeat (first | (apply JL.y; (first | (apply Y_move; rfl) | (apply Y_len; rfl) | (apply Y_lss; rfl; rfl)); rfl) | refine J.seq ?_ | refine J.region ?_ | refine JL.nil ?_)
  refine J.cond_d rfl (fun hlt => ?_) (fun hlt => ?_)
  case refine_2 =>
    repeat (first | (apply JL.y; (apply Y_assign; rfl); rfl) | refine J.seq ?_ | refine J.region ?_ | refine JL.nil ?_ | (apply J.exit; rfl))
    exact J.ret1 Try.func3 Try.results3 (RV.tm rfl) fun w' hw' => ⟨rfl, hP.x.trans (hw'.still fun k hk => ⟨_, .head _, hk.symm, hP.b⟩)⟩
  have hil : i < n := by omega
  obtain ⟨z, hx⟩ : ∃ z, steps[i]? = some z := ⟨_, List.getElem?_eq_getElem (by omega)⟩
  obtain ⟨ad, _, e1⟩ := hs.base (by omega) (by omega)
  simp only [Value.slice.injEq] at e1
  obtain ⟨rfl, _, _⟩ := e1
  have hs' : Rd 7 StpC W All (.slice (some ad) n c) steps := hs
  have l1 := ((hs'.lds (P := Try.prog) (t := 35) hx).ext0 hP.x)
  obtain ⟨ws, hws, hwr, ho⟩ := StpC.open_ (hs.el z (List.mem_of_getElem? hx))
  obtain ⟨zc, s⟩ := z
  simp only at hws hwr
  subst hws
  have hwr1 := hwr.old hP.x fun _ _ _ h => h
  have hwr1 : Foot (fun w => RInts w ws s.m.words) w1 (fun k => k < W.heap.size) := hwr1.mono fun k _ hk => hk.2
  unfold maxLen at hma
  have sW1 := hP.x.size
  have hlt1 : ∀ k, O k ∨ E k ∨ K k → k < w1.heap.size := fun k hk => hP.lr.lt hk
  repeat (first | (apply JL.y; (apply Y_move; rfl); rfl) | refine J.seq ?_ | refine J.region ?_ | refine J.skip ?_ | refine J.block ?_)
  apply JL.y (Y_indexAddr rfl rfl (by omega)) rfl
  apply JL.y (Y_loadP rfl fun w' hw' => l1.at_ (hw'.still fun k hk => ⟨_, .head _, hk.symm, hP.b⟩) fun _ _ _ h => h) rfl
  have hPb := hP.b
  unfold rlC at hPb
  have hPbo : v.oneCell' = true := by obtain ⟨A', c', hv, _⟩ := hP.lr.r.slice; rw [hv]; rfl
  unfold stpC msgC rlC
  repeat (first | refine JL.nil ?_ | (apply JL.alloc; rfl; rfl; intro _) | (apply JL.store; (apply St_W 0; rfl; rfl; rfl; exact inferInstance; rfl; rfl; (first | (focus (simp [Value.oneCell']; done)) | (simp [Value.oneCell']; assumption) | (simp [Value.oneCell']; exact ⟨by assumption, by assumption⟩)); (first | (focus (simp only [List.set_cons_zero]; done)) | (simp only [List.set_cons_zero]; rfl)))))
  refine J.seq ?_
  repeat (first | (apply JL.y; (apply Y_assign; rfl); rfl) | refine J.region ?_ | refine JL.nil ?_)
  rename_i b10
  refine J.seq ?_
  -- from here on from the world behind the new variable
  refine J.intro fun w2 hw2 => ?_
  have hE2 : Ext No w1 w2 := hw2.still fun k hk => ⟨_, .tail _ (.head _), hk.symm, hPb⟩
  have hP := hP.ext0 hE2
  have hwr2 := hwr1.ext0 hE2
  have hB10 := hw2.has _ (.head _)
  have hB8 := hw2.has _ (.tail _ (.head _))
  have b10l : w1.heap.size ≤ b10 := hw2.fresh fun k h => ⟨_, .head _, h.symm⟩
  have b10u := hB10.lt
  have b8u := hB8.lt
  simp only at b10u b8u
  have b810 : b8 ≠ b10 := hw2.apart.1 _ (.head _)
  have hn10 : ∀ k, O k ∨ E k ∨ K k → k ≠ b10 := fun k hk h => by have := hlt1 k hk; omega
  have sW := hP.x.size
  have hlp := hP.lr.l.hpl
  have hlen := hP.lr.len
  refine J.at (C := Cls w2 (fun k => k = b10 ∨ k = b8) [_, _]) ?_ (Cls.start2 hB10 hB8 b810)
  have hstw : ∀ {H' : List Blk} {w' : World}, Cls w2 (fun k => k = b10 ∨ k = b8) H' w' → (⟨b10, stpC ws s, 35⟩ : Blk) ∈ H' → (⟨b8, rlC ln' pl' v, 28⟩ : Blk) ∈ H' → Ext No w2 w' := fun h h1 h2 => h.still fun k hk => hk.elim (fun hk => ⟨_, h1, hk.symm, hB10⟩) fun hk => ⟨_, h2, hk.symm, hB8⟩
  unfold stpC msgC rlC at hstw
  refine J.joinP (α := Value × Zs × (Nat → Prop) × (Nat → Prop) × (Nat → Prop) × List Msg) (fun q w' => PSt W w' g b8 q.2.2.1 q.2.2.2.1 q.2.2.2.2.1 ln' pl' q.2.2.2.2.2 q.1 q.2.1) (fun _ => [(2, .slice (some ad) n c), (7, .pointer (some ⟨g, 0, none⟩)), (8, .pointer (some ⟨b8, 0, none⟩)), (9, .int .i64 i), (11, .bool true)]) (fun k' hj => ?_) (fun q => ?_)
  · repeat (first | (apply JL.y; (first | (apply Y_assign; rfl) | (apply Y_loadW 0; rfl; rfl; exact inferInstance; rfl) | (apply Y_eql; rfl; rfl)); rfl) | refine J.seq ?_ | refine J.region ?_ | refine JL.nil ?_ | (apply JL.callq; rfl; rfl; (intro wc hwc; first | exact kind10_spec ws s _)) | refine J.block ?_)
    have hk8 := kd8_in s.kind
    have hkk : kd8 s.kind = 0 ∨ kd8 s.kind = 1 ∨ kd8 s.kind = 2 ∨ kd8 s.kind = 3 ∨ kd8 s.kind = 4 ∨ kd8 s.kind = 5 ∨ kd8 s.kind = 6 ∨ kd8 s.kind = 7 := by omega
    have put : (kd8 s.kind = 0 ∨ kd8 s.kind = 1 ∨ kd8 s.kind = 2 ∨ kd8 s.kind = 3) ∨ (kd8 s.kind = 4 ∨ kd8 s.kind = 5) ∨ kd8 s.kind = 6 ∨ kd8 s.kind = 7 := by omega
    rcases put with hk | hk | hk | hk
    · -- Put
      rcases hk with hk | hk | hk | hk
      all_goals
        rw [hk]
        repeat (first | (apply JL.y; (first | (apply Y_assign; rfl) | (apply Y_eql; rfl; rfl)); rfl) | refine J.seq ?_ | refine J.region ?_ | refine JL.nil ?_ | refine J.skip ?_ | refine J.cond_t rfl ?_ | refine J.cond_f rfl ?_)
      all_goals
        refine J.draw (S := Cls _ _ _) [8] #[false, false, false, false, false, false, false, false, false, false] rfl rfl (fun w hw => hw.drew) (fun w hS => ?_)
        (apply DR.take 0 #[true, false, false, false, false, false, false, false, false, false]; rfl; kernel_rfl; (first | (apply Y_load1 0; rfl; rfl; rfl; exact inferInstance) | (apply Y_load1 1; rfl; rfl; rfl; exact inferInstance) | (apply Y_load1 2; rfl; rfl; rfl; exact inferInstance) | (apply Y_load1 3; rfl; rfl; rfl; exact inferInstance) | (apply Y_loadW 0; rfl; rfl; exact inferInstance; rfl) | (apply Y_loadW 1; rfl; rfl; exact inferInstance; rfl) | (apply Y_loadW 2; rfl; rfl; exact inferInstance; rfl) | (apply Y_loadW 3; rfl; rfl; exact inferInstance; rfl)); rfl; exact hS)
        (apply DR.take 1 #[true, true, false, false, false, false, false, false, false, false]; rfl; kernel_rfl; (first | (apply Y_load1 0; rfl; rfl; rfl; exact inferInstance) | (apply Y_load1 1; rfl; rfl; rfl; exact inferInstance) | (apply Y_load1 2; rfl; rfl; rfl; exact inferInstance) | (apply Y_load1 3; rfl; rfl; rfl; exact inferInstance) | (apply Y_loadW 0; rfl; rfl; exact inferInstance; rfl) | (apply Y_loadW 1; rfl; rfl; exact inferInstance; rfl) | (apply Y_loadW 2; rfl; rfl; exact inferInstance; rfl) | (apply Y_loadW 3; rfl; rfl; exact inferInstance; rfl)); rfl; exact hS)
        refine DRA.go (l' := #[true, true, false, false, false, false, false, true, false, false]) (w0 := w2) (d := 12) (cs := [.int .i64 0, .int .i64 0, .slice none 0 0]) (t := 28) (U := No) ?_
        refine DRA.call 7 2 #[true, true, true, false, false, false, false, false, false, false] #[true, true, true, false, false, false, false, true, false, false] (fun v' N w' => ∃ ws', v' = .agg (msgC ws' s.m.cut8).toArray ∧ Foot (fun w => RInts w ws' s.m.cut8.words) w' (fun k => k < W.heap.size)) No rfl rfl (by kernel_rfl) (by kernel_rfl) rfl rfl rfl rfl rfl rfl rfl inferInstance rfl hS (fun _ _ h he => h.ext0 he) (fun _ h => h.ext.size) (fun _ h => h.elim) (fun _ h => h.elim) (fun w3 hE3 hS3 => ?_) (fun v3 N3 w4 ⟨ws', hv, hF⟩ hS hN3 hU => ?_)
        · exact (message10_spec (hwr2.ext0 (hstw hS3 (by simp) (by simp)))).mono fun e w' ⟨r, h1, h2, ws', h3, h4, h5⟩ => ⟨r, No, h1, ⟨ws', h3, h4⟩, fun _ h => h.elim, h2, hS3.ext0 h2⟩
        subst hv
        refine DRA.call 7 3 #[true, true, true, true, false, false, false, false, false, false] #[true, true, true, true, false, false, false, true, false, false] (fun v' N w' => ∃ v4 zs4, v' = .tuple #[.agg (rlC ln' pl' v4).toArray, .int .i64 (rputR ln' pl' (zs.map (·.2)) s.m.cut8).1] ∧ Rd 5 MsgC w' (fun k => (K k ∨ k < W.heap.size) ∨ N k) v4 zs4 ∧ zs4.map (·.2) = (rputR ln' pl' (zs.map (·.2)) s.m.cut8).2 ∧ ∀ k, N k → w2.heap.size ≤ k) No rfl rfl (by kernel_rfl) (by kernel_rfl) rfl rfl rfl rfl rfl rfl rfl inferInstance rfl hS (fun _ _ h he => h.ext0 he) (fun _ h => h.ext.size) (fun _ h => h.elim) hU (fun w5 hE5 hS5 => ?_) (fun v5 N5 w6 ⟨v4, zs4, hv, hR4, hz4, hN5l⟩ hS hN5 hU => ?_)
        · exact (rPut_spec (ok := fun k => K k ∨ k < W.heap.size) ((hP.lr.r.ext0 (hstw hS5 (by simp) (by simp))).mono fun k _ hk => .inl hk) (by omega) (by omega) hP.lr.srt ((hF.ext0 hE5).mono fun k _ hk => .inr hk) (cut8_len _)).mono fun e w' ⟨r, h1, h2, v4, zs4, h3, h4, h5⟩ => ⟨r, fun k => w5.heap.size ≤ k ∧ k < w'.heap.size, h1, ⟨v4, zs4, h3, h4.mono fun k hk ho => ho.imp id fun h => ⟨h, hk⟩, h5, fun k hk => Nat.le_trans hS5.ext.size hk.1⟩, fun k h => h, h2, hS5.ext0 h2⟩
        subst hv
        rw [hP.lr.eq, rputR_srt] at hz4
        rw [hP.lr.eq, rputR_srt]
        (apply DRA.pure 4 #[true, true, true, true, true, false, false, false, false, false] #[true, true, true, true, true, false, false, true, false, false]; rfl; kernel_rfl; kernel_rfl; (apply Y_move; rfl); rfl; rfl; rfl)
        (apply DRA.pure 5 #[true, true, true, true, true, true, false, false, false, false] #[true, true, true, true, true, true, false, true, false, false]; rfl; kernel_rfl; kernel_rfl; (apply Y_extract; rfl; rfl); rfl; rfl; rfl)
        (apply DRA.pure 6 #[true, true, true, true, true, true, true, false, false, false] #[true, true, true, true, true, true, true, true, false, false]; rfl; kernel_rfl; kernel_rfl; (apply Y_extract; rfl; rfl); rfl; rfl; rfl)
        refine DRA.end_ 7 rfl (by kernel_rfl) rfl rfl inferInstance rfl hS (fun _ _ h he => h.ext0 he) (fun _ h => h.ext.size) hU (fun b12 w7 hE7 hS b12l hb12 hB12 => ?_)
        have hv4 : v4.oneCell' = true := by obtain ⟨A', c', hv, _⟩ := hR4.slice; rw [hv]; rfl
        have hR7 := (hR4.ext0 hE7).mono (ok' := fun k => ((K k ∨ k < W.heap.size) ∨ N5 k) ∧ k < w7.heap.size) fun k hk h => ⟨h, hk⟩
        have hB10' := hS.has _ (.head _)
        have hB8' := hS.has _ (.tail _ (.head _))
        have hE27 := hstw hS (by simp) (by simp)
        (apply DR.store 8 #[true, true, true, true, true, true, true, true, true, false]; rfl; kernel_rfl; rfl; exact (Cls.start3 hB12 hB10' hB8' (by simp only; omega) (by simp only; omega) b810); (apply St_W 0; rfl; rfl; rfl; exact inferInstance; rfl; rfl; exact rl_one hv4; rfl); intro w8 hC8)
        (apply DR.pure 9 #[true, true, true, true, true, true, true, true, true, true]; rfl; kernel_rfl; (apply Y_assign; rfl); rfl)
        refine DR.done (by kernel_rfl) ?_
        refine J.at (C := Cls _ _ _) ?_ hC8
        unfold rlC
        repeat (first | (apply JL.y; (first | (apply Y_move; rfl) | (apply Y_loadW 0; rfl; rfl; exact inferInstance; rfl) | (apply Y_loadW 1; rfl; rfl; exact inferInstance; rfl)); rfl) | refine J.seq ?_ | refine J.region ?_ | refine JL.nil ?_ | (apply JL.store; (apply St_W 2; rfl; rfl; rfl; exact inferInstance; rfl; rfl; (first | (focus (simp [Value.oneCell']; done)) | (simp [Value.oneCell']; assumption) | (simp [Value.oneCell']; exact ⟨by assumption, by assumption⟩)); (first | (focus (simp only [List.set_cons_zero, List.set_cons_succ]; done)) | (simp only [List.set_cons_zero, List.set_cons_succ]; rfl)))))
        have hD : ∀ k, (k = b12 ∨ k = b10 ∨ k = b8) → W.heap.size ≤ k := fun k hk => by omega
        have hKD : ∀ k, (((K k ∨ k < W.heap.size) ∨ N5 k) ∧ k < w7.heap.size) → ¬ (k = b12 ∨ k = b10 ∨ k = b8) := fun k hk h => by
          rcases hk.1 with (h1 | h1) | h1
          · have := hlt1 k (.inr (.inr h1))
            have := hn10 k (.inr (.inr h1))
            have := hP.nb k (.inr (.inr h1))
            omega
          · have := hD k h; omega
          · have h2 := hN5l k h1
            rcases h with rfl | h | h
            · exact hb12 (.inr h1)
            · omega
            · omega
        have hOD : ∀ k, O k ∨ E k → ¬ (k = b12 ∨ k = b10 ∨ k = b8) := fun k hk h => by
          have hk' : O k ∨ E k ∨ K k := hk.elim .inl fun h => .inr (.inl h)
          have := hlt1 k hk'
          have := hn10 k hk'
          have := hP.nb k hk'
          omega
        have hKO : ∀ k, (((K k ∨ k < W.heap.size) ∨ N5 k) ∧ k < w7.heap.size) → ¬ O k ∧ ¬ E k := fun k hk => by
          rcases hk.1 with (h1 | h1) | h1
          · exact hP.lr.k1 k h1
          · exact ⟨fun h => by have := hP.lr.oe k (.inl h); omega, fun h => by have := hP.lr.oe k (.inr h); omega⟩
          · have h2 := hN5l k h1
            exact ⟨fun h => by have := hP.lr.lt (.inl h); omega, fun h => by have := hP.lr.lt (.inr (.inl h)); omega⟩
        refine JL.call _ rfl rfl (fun w9 hw9 => message10_spec ((hwr2.ext0 hE27).ext hw9.ext fun k _ h1 h2 => by have := hD k h2; omega)) fun w9 r w10 hw9 ⟨hE10, ws2, hr, hF2, _⟩ => ?_
        subst hr
        have hC10 := hw9.ext0 hE10
        refine GL.of_JL (C := Cls w10 (fun k => k = b12 ∨ k = b10 ∨ k = b8) [_, _, _]) (Cls.start3 (hC10.has _ (.head _)) (hC10.has _ (.tail _ (.head _))) (hC10.has _ (.tail _ (.tail _ (.head _)))) (by simp only; omega) (by simp only; omega) b810) ?_
        have hL10 := ((hP.lr.l.ext0 hE27).ext hw9.ext hOD).ext0 hE10
        have hR10 := (hR7.ext hw9.ext fun k _ hk => hKD k hk).ext0 hE10
        refine JL.call _ rfl rfl (fun w11 hw11 => lanePut_spec (hL10.ext hw11.ext hOD) (RMsg.mk (hF2.ext hw11.ext fun k _ h1 h2 => by have := hD k h2; omega) (cut8_len _))) fun w11 r w12 hw11 ⟨hr, hLT⟩ => ?_
        subst hr
        have s27 := hE27.size
        have s79 := hw9.ext.size
        have s910 := hE10.size
        have s1011 := hw11.ext.size
        have hB8'' := (hw11.has _ (.tail _ (.tail _ (.head _)))).keep hLT.1 fun h => hP.nb b8 (.inl h) rfl
        have hX12 : Ext No W w12 := ((((hP.x.trans hE27).then hw9.ext fun k h1 h2 => by have := hD k h2; omega).trans hE10).then hw11.ext fun k h1 h2 => by have := hD k h2; omega).then hLT.1 fun k h1 h2 => by have := hP.lr.oe k (.inl h2); omega
        obtain ⟨O', E', hLR, hOE'⟩ := hLT.lr (W := W) (hL10.ext hw11.ext hOD) (hR10.ext hw11.ext fun k _ hk => hKD k hk) hKO (fun k hk => Nat.lt_of_lt_of_le hk.2 (by omega)) hP.lr.oe (by omega) hz4
        refine GL.of_JL (C := Cls w12 No []) (Cls.start _ _) ?_
        apply JL.y (Y_move rfl) rfl
        apply JL.y (Y_eql_t rfl rfl rfl) rfl
        repeat (first | (apply JL.y; (apply Y_assign; rfl); rfl) | refine JL.nil ?_ | refine J.inBlock ?_)
        refine J.imp (J.weak (hj (v4, zs4, O', E', _, _)) ⟨rfl, rfl, rfl, rfl, rfl, trivial⟩) fun w' hw' => PSt.ext0 ⟨hLR, hX12, hB8'', fun k hk h => ?_⟩ hw'.ext
        subst h
        rcases hk with hk | hk | hk
        · rcases hOE' _ (.inl hk) with (h1 | h1) | h1
          · exact hP.nb _ (.inl h1) rfl
          · exact hP.nb _ (.inr (.inl h1)) rfl
          · omega
        · rcases hOE' _ (.inr hk) with (h1 | h1) | h1
          · exact hP.nb _ (.inl h1) rfl
          · exact hP.nb _ (.inr (.inl h1)) rfl
          · omega
        · exact hKD _ hk (.inr (.inr rfl))
    · -- Take
      have hT : takeR (St.srt Msg.lane ms) = ((takeR (St.srt Msg.lane ms)).1, (takeR (St.srt Msg.lane ms)).2.1, (St.srt Msg.lane ms).drop 1) := by rw [← takeR_drop]
      have hz' : (zs.drop 1).map (·.2) = St.srt Msg.lane ((St.srt Msg.lane ms).drop 1) := by rw [List.map_drop, hP.lr.eq, St.srt_drop]
      obtain ⟨m1, hm1⟩ : ∃ m1, m1 = (takeR (St.srt Msg.lane ms)).1 := ⟨_, rfl⟩
      obtain ⟨t1, ht1⟩ : ∃ t1, t1 = (takeR (St.srt Msg.lane ms)).2.1 := ⟨_, rfl⟩
      rw [← hm1, ← ht1] at hT
      have n8 : ∀ k, O k ∨ E k ∨ K k → ¬ k = b8 := hP.nb
      have u2 : ∀ k, O k ∨ E k ∨ K k → k < w2.heap.size := fun k hk => hP.lr.lt hk
      rcases hk with hk | hk
      all_goals
        rw [hk]
        repeat (first | (apply JL.y; (first | (apply Y_assign; rfl) | (apply Y_loadW 1; rfl; rfl; exact inferInstance; rfl) | (apply Y_eql; rfl; rfl)); rfl) | refine J.seq ?_ | refine J.region ?_ | refine JL.nil ?_ | refine J.skip ?_ | refine J.cond_t rfl ?_ | refine J.cond_f rfl ?_)
        refine JL.call _ rfl rfl (fun w3 hw3 => rTake_spec (ln := ln') (pl := pl') (hP.lr.r.ext0 (hstw hw3 (by simp) (by simp)))) fun w3 r w4 hw3 ⟨hE4, v', vm, hr, hR4, hF4⟩ => ?_
        rw [hP.lr.eq, hT] at hr hF4
        subst hr
        have hE24 := (hstw hw3 (by simp) (by simp)).trans hE4
        obtain ⟨wsm, rfl, hFm, hl8, hom⟩ := RMsg.open_ hF4
        have s24 := hE24.size
        have hB8 := hB8.ext0 hE24
        have hv' : v'.oneCell' = true := by obtain ⟨A', c', hv, _⟩ := hR4.slice; rw [hv]; rfl
        refine GL.of_JL (C := Cls w4 (fun k => k = b8) [_]) (Cls.start1 hB8) ?_
        unfold rlC msgC
        repeat (first | (apply JL.y; (first | (apply Y_move; rfl) | (apply Y_assign; rfl) | (apply Y_loadW 1; rfl; rfl; exact inferInstance; rfl) | (apply Y_extract; rfl; rfl)); rfl) | refine J.seq ?_ | refine J.region ?_ | refine JL.nil ?_ | (apply JL.alloc; rfl; rfl; intro _) | (apply JL.store; (first | (apply St_W 0; rfl; rfl; rfl; exact inferInstance; rfl; rfl; (first | (focus (simp [Value.oneCell']; done)) | (simp [Value.oneCell']; assumption) | (simp [Value.oneCell']; exact ⟨by assumption, by assumption⟩)); (first | (focus (simp only [List.set_cons_zero]; done)) | (simp only [List.set_cons_zero]; rfl))) | (apply St_W 1; rfl; rfl; rfl; exact inferInstance; rfl; rfl; (first | (focus (simp [Value.oneCell']; done)) | (simp [Value.oneCell']; assumption) | (simp [Value.oneCell']; exact ⟨by assumption, by assumption⟩)); (first | (focus (simp only [List.set_cons_zero, List.set_cons_succ]; done)) | (simp only [List.set_cons_zero, List.set_cons_succ]; rfl))) | (apply St_W 2; rfl; rfl; rfl; exact inferInstance; rfl; rfl; (first | (focus (simp [Value.oneCell']; done)) | (simp [Value.oneCell']; assumption) | (simp [Value.oneCell']; exact ⟨by assumption, by assumption⟩)); (first | (focus (simp only [List.set_cons_zero, List.set_cons_succ]; done)) | (simp only [List.set_cons_zero, List.set_cons_succ]; rfl))))))
        rename_i b14 b15
        refine JL.call _ rfl rfl (fun w5 hw5 => lanePeek_spec (((hP.lr.l.ext0 hE24)).ext hw5.ext fun k hk => n8 k (hk.elim .inl fun h => .inr (.inl h)))) fun w5 r w6 hw5 ⟨hE6, vp, hr, hF6⟩ => ?_
        rw [← hm1] at hF6
        rw [← ht1] at hr
        subst hr
        obtain ⟨wsp, rfl, hFp, _, hop⟩ := RMsg.open_ hF6
        have s45 := hw5.ext.size
        have s56 := hE6.size
        have hC6 := hw5.ext0 hE6
        have hB15 := hC6.has _ (.head _)
        have hB8 := hC6.has _ (.tail _ (.tail _ (.head _)))
        have b15l : w4.heap.size ≤ b15 := (hw5.mine _ (.head _)).elim (fun h => absurd h.symm (hw5.apart.1 _ (.tail _ (.head _)))) id
        have b15u := hB15.lt
        have b8u := hB8.lt
        simp only at b15u b8u
        have b15n : b8 ≠ b15 := hw5.apart.1 _ (.tail _ (.head _))
        have hL6 := ((hP.lr.l.ext0 hE24).ext hw5.ext fun k hk => n8 k (hk.elim .inl fun h => .inr (.inl h))).ext0 hE6
        have hR6 := (hR4.ext hw5.ext fun k _ hk => n8 k (.inr (.inr hk))).ext0 hE6
        have hFm6 := (hFm.ext hw5.ext fun k _ hk => n8 k (.inr (.inr hk))).ext0 hE6
        have hX6 : Ext No W w6 := ((hP.x.trans hE24).then hw5.ext fun k h1 h2 => by omega).trans hE6
        refine GL.of_JL (C := Cls w6 (fun k => k = b15 ∨ k = b8) [_, _]) (Cls.start2 hB15 hB8 b15n) ?_
        unfold msgC
        repeat (first | (apply JL.y; (first | (apply Y_move; rfl) | (apply Y_assign; rfl) | (apply Y_extract; rfl; rfl)); rfl) | refine J.seq ?_ | refine J.region ?_ | refine JL.nil ?_ | (apply JL.alloc; rfl; rfl; intro _) | (apply JL.store; (apply St_W 0; rfl; rfl; rfl; exact inferInstance; rfl; rfl; (first | (focus (simp [Value.oneCell']; done)) | (simp [Value.oneCell']; assumption) | (simp [Value.oneCell']; exact ⟨by assumption, by assumption⟩)); (first | (focus (simp only [List.set_cons_zero]; done)) | (simp only [List.set_cons_zero]; rfl)))))
        rename_i b17
        have st6 : ∀ {H' : List Blk} {w' : World}, Cls w6 (fun k => k = b15 ∨ k = b8) H' w' → (⟨b15, msgC wsm m1, 33⟩ : Blk) ∈ H' → (⟨b8, rlC ln' pl' v', 28⟩ : Blk) ∈ H' → Ext No w6 w' := fun h h1 h2 => h.still fun k hk => hk.elim (fun hk => ⟨_, h1, hk.symm, hB15⟩) fun hk => ⟨_, h2, hk.symm, hB8⟩
        unfold msgC rlC at st6
        refine JL.call _ rfl rfl (fun w7 hw7 => laneTake_spec (hL6.ext0 (st6 hw7 (by simp) (by simp)))) fun w7 r w8 hw7 ⟨vn, hr, hF8, hLT⟩ => ?_
        have hE67 := st6 hw7 (by simp) (by simp)
        have s67 := hE67.size
        rw [← hm1] at hF8
        rw [← ht1] at hr
        rw [takeR_drop] at hLT
        subst hr
        obtain ⟨wsn, rfl, hFn, _, hon⟩ := RMsg.open_ hF8
        have hB17 := (hw7.has _ (.head _))
        have b17l : w6.heap.size ≤ b17 := hw7.fresh fun k h => h.elim (fun h => ⟨_, .head _, h.symm⟩) fun h => ⟨_, .tail _ (.head _), h.symm⟩
        have b17u := hB17.lt
        simp only at b17u
        obtain ⟨O', E', hLR, hOE'⟩ := hLT.lr (W := W) (hL6.ext0 hE67) (hR6.ext0 hE67) hP.lr.k1 (fun k hk => by have := hP.lr.k2 k hk; omega) hP.lr.oe (by omega) hz'
        have hB17 := hB17.keep hLT.1 fun h => by have := u2 _ (.inl h); simp only at this; omega
        have hB15 := (hw7.has _ (.tail _ (.head _))).keep hLT.1 fun h => by have := u2 _ (.inl h); simp only at this; omega
        have hB8 := (hw7.has _ (.tail _ (.tail _ (.head _)))).keep hLT.1 fun h => n8 _ (.inl h) rfl
        have hFm8 := (hFm6.ext0 hE67).ext hLT.1 fun k _ h1 h2 => (hP.lr.k1 k h1).1 h2
        have hFp8 := (hFp.ext0 hE67).ext hLT.1 fun k _ h1 h2 => by have := u2 k (.inl h2); omega
        have hX8 : Ext No W w8 := (hX6.trans hE67).then hLT.1 fun k h1 h2 => by have := hP.lr.oe k (.inl h2); omega
        refine GL.of_JL (C := Cls w8 (fun k => k = b17 ∨ k = b15 ∨ k = b8) [_, _, _]) (Cls.start3 hB17 hB15 hB8 (by simp only; omega) (by simp only; omega) b15n) ?_
        have st8 : ∀ {H' : List Blk} {w' : World}, Cls w8 (fun k => k = b17 ∨ k = b15 ∨ k = b8) H' w' → (⟨b17, msgC wsp m1, 33⟩ : Blk) ∈ H' → (⟨b15, msgC wsm m1, 33⟩ : Blk) ∈ H' → (⟨b8, rlC ln' pl' v', 28⟩ : Blk) ∈ H' → Ext No w8 w' := fun h h1 h2 h3 => h.still fun k hk => by
          rcases hk with rfl | rfl | rfl
          · exact ⟨_, h1, rfl, hB17⟩
          · exact ⟨_, h2, rfl, hB15⟩
          · exact ⟨_, h3, rfl, hB8⟩
        unfold msgC rlC at st8
        unfold msgC
        repeat (first | (apply JL.y; (first | (apply Y_move; rfl) | (apply Y_assign; rfl) | (apply Y_loadW 0; rfl; rfl; exact inferInstance; rfl) | (apply Y_loadW 1; rfl; rfl; exact inferInstance; rfl) | (apply Y_loadW 2; rfl; rfl; exact inferInstance; rfl) | (apply Y_extract; rfl; rfl) | (apply Y_pick_t; rfl; rfl)); rfl) | refine J.region ?_ | refine JL.nil ?_ | (apply JL.callq; rfl; rfl; (intro wc hwc; first | exact one_true (m := m1) (RMsg.mk (hFm8.ext0 (st8 hwc (by simp) (by simp) (by simp))) hl8) (RMsg.mk (hFn.ext0 (st8 hwc (by simp) (by simp) (by simp))) hl8) | exact one_true (m := m1) (RMsg.mk (hFm8.ext0 (st8 hwc (by simp) (by simp) (by simp))) hl8) (RMsg.mk (hFp8.ext0 (st8 hwc (by simp) (by simp) (by simp))) hl8))) | (apply JL.alloc; rfl; rfl; intro _) | (apply JL.store; (apply St_W 0; rfl; rfl; rfl; exact inferInstance; rfl; rfl; (first | (focus (simp [Value.oneCell']; done)) | (simp [Value.oneCell']; assumption) | (simp [Value.oneCell']; exact ⟨by assumption, by assumption⟩)); (first | (focus (simp only [List.set_cons_zero]; done)) | (simp only [List.set_cons_zero]; rfl)))) | (apply JL.guard_yes; rfl; rfl; rfl))
        apply JL.y (Y_eqlB Try.underlying4 rfl rfl) rfl
        repeat (first | (apply JL.y; (first | (apply Y_move; rfl) | (apply Y_pick_t; rfl; rfl)); rfl) | (apply JL.guard_yes; rfl; rfl; rfl))
        apply JL.y (Y_eqlB Try.underlying4 rfl rfl) rfl
        repeat (first | (apply JL.y; (first | (apply Y_assign; rfl) | (apply Y_pick_t; rfl; rfl)); rfl) | refine JL.nil ?_ | refine J.inBlock ?_)
        refine J.imp (J.weak (hj (v', zs.drop 1, O', E', K, _)) ⟨rfl, rfl, rfl, rfl, rfl, trivial⟩) fun w' hw' => PSt.ext0 ⟨hLR, hX8, hB8, fun k hk => ?_⟩ (st8 hw' (by simp) (by simp) (by simp))
        rcases hk with hk | hk | hk
        · rcases hOE' _ (.inl hk) with (h1 | h1) | h1
          · exact n8 _ (.inl h1)
          · exact n8 _ (.inr (.inl h1))
          · intro h; omega
        · rcases hOE' _ (.inr hk) with (h1 | h1) | h1
          · exact n8 _ (.inl h1)
          · exact n8 _ (.inr (.inl h1))
          · intro h; omega
        · exact n8 _ (.inr (.inr hk))
    · -- Sweep
      have n8 : ∀ k, O k ∨ E k ∨ K k → ¬ k = b8 := hP.nb
      have u2 : ∀ k, O k ∨ E k ∨ K k → k < w2.heap.size := fun k hk => hP.lr.lt hk
      rw [hk]
      repeat (first | (apply JL.y; (first | (apply Y_assign; rfl) | (apply Y_fieldAddr; rfl; rfl) | (apply Y_load1 0; rfl; rfl; rfl; exact inferInstance) | (apply Y_loadW 1; rfl; rfl; exact inferInstance; rfl) | (apply Y_eql; rfl; rfl)); rfl) | refine J.seq ?_ | refine J.region ?_ | refine JL.nil ?_ | refine J.cond_t rfl ?_ | refine J.cond_f rfl ?_)
      refine JL.call _ rfl rfl (fun w3 hw3 => rSweep_spec (ln := ln') (pl := pl') (hP.lr.r.ext0 (hstw hw3 (by simp) (by simp))) (by omega) s.n) fun w3 r w4 hw3 ⟨hE4, v', vo, zr, zo, hr, hR4, hO4, hzr, hzo⟩ => ?_
      subst hr
      rw [hP.lr.eq] at hzr hzo
      have hE23 := hstw hw3 (by simp) (by simp)
      have hE24 := hE23.trans hE4
      have s23 := hE23.size
      have s24 := hE4.size
      have hB8 := hB8.ext0 hE24
      have hB10 := hB10.ext0 hE24
      have hv' : v'.oneCell' = true := by obtain ⟨A', c', hv, _⟩ := hR4.own.slice; rw [hv]; rfl
      have hKn : ∀ k, (K k ∧ k < w3.heap.size) ∨ w3.heap.size ≤ k → k ≠ b10 ∧ k ≠ b8 := fun k hk => by
        rcases hk with hk | hk
        · exact ⟨hn10 k (.inr (.inr hk.1)), n8 k (.inr (.inr hk.1))⟩
        · omega
      refine GL.of_JL (C := Cls w4 (fun k => k = b10 ∨ k = b8) [_, _]) (Cls.start2 hB10 hB8 b810) ?_
      unfold rlC
      repeat (first | (apply JL.y; (first | (apply Y_move; rfl) | (apply Y_assign; rfl) | (apply Y_fieldAddr; rfl; rfl) | (apply Y_load1 1; rfl; rfl; rfl; exact inferInstance) | (apply Y_loadW 0; rfl; rfl; exact inferInstance; rfl) | (apply Y_extract; rfl; rfl)); rfl) | refine J.seq ?_ | refine J.region ?_ | refine JL.nil ?_ | (apply JL.alloc; rfl; rfl; intro _) | (apply JL.store; (first | (apply St_W 0; rfl; rfl; rfl; exact inferInstance; rfl; rfl; (first | (focus (simp [Value.oneCell']; done)) | (simp [Value.oneCell']; assumption) | (simp [Value.oneCell']; exact ⟨by assumption, by assumption⟩)); (first | (focus (simp only [List.set_cons_zero]; done)) | (simp only [List.set_cons_zero]; rfl))) | (apply St_W 2; rfl; rfl; rfl; exact inferInstance; rfl; rfl; (first | (focus (simp [Value.oneCell']; done)) | (simp [Value.oneCell']; assumption) | (simp [Value.oneCell']; exact ⟨by assumption, by assumption⟩)); (first | (focus (simp only [List.set_cons_zero, List.set_cons_succ]; done)) | (simp only [List.set_cons_zero, List.set_cons_succ]; rfl))))))
      refine JL.call _ rfl rfl (fun w5 hw5 => laneSweep_spec (((hP.lr.l.ext0 hE24)).ext hw5.ext fun k hk h => by
        have h1 := hn10 k (hk.elim .inl fun h => .inr (.inl h))
        have h2 := n8 k (hk.elim .inl fun h => .inr (.inl h))
        omega) s.n) fun w5 r w6 hw5 ⟨zs6, hO6, hr6, hz6, hLT⟩ => ?_
      have s45 := hw5.ext.size
      have s56 := hLT.1.size
      have hKd : ∀ k, (K k ∧ k < w3.heap.size) ∨ w3.heap.size ≤ k → ¬ (k = b10 ∨ k = b8) := fun k hk h => by have := hKn k hk; omega
      have hR5 : Rd 5 MsgC w5 (fun k => ((K k ∧ k < w3.heap.size) ∨ w3.heap.size ≤ k) ∧ k < w4.heap.size) v' zr := (hR4.rd.mono fun k hk h => ⟨h, hk⟩).ext hw5.ext fun k _ hk => hKd k hk.1
      have hO5 : Rd 5 MsgC w5 (fun k => ((K k ∧ k < w3.heap.size) ∨ w3.heap.size ≤ k) ∧ k < w4.heap.size) vo zo := (hO4.rd.mono fun k hk h => ⟨h, hk⟩).ext hw5.ext fun k _ hk => hKd k hk.1
      have hKO : ∀ k, (((K k ∧ k < w3.heap.size) ∨ w3.heap.size ≤ k) ∧ k < w4.heap.size) → ¬ O k ∧ ¬ E k := fun k hk => by
        rcases hk.1 with h1 | h1
        · exact hP.lr.k1 k h1.1
        · exact ⟨fun h => by have := u2 k (.inl h); omega, fun h => by have := u2 k (.inr (.inl h)); omega⟩
      have hL5 := (hP.lr.l.ext0 hE24).ext hw5.ext fun k hk h => by
        have h1 := hn10 k (hk.elim .inl fun h => .inr (.inl h))
        have h2 := n8 k (hk.elim .inl fun h => .inr (.inl h))
        omega
      obtain ⟨O', E', hLR, hOE'⟩ := hLT.lr (W := W) hL5 hR5 hKO (fun k hk => by have := hk.2; omega) hP.lr.oe (by omega) (by rw [hzr, St.srt_filter])
      have hO6' := hO5.ext hLT.1 fun k _ hk h => (hKO k hk).1 h
      have hX6 : Ext No W w6 := ((hP.x.trans hE24).then hw5.ext fun k h1 h2 => by omega).then hLT.1 fun k h1 h2 => by have := hP.lr.oe k (.inl h2); omega
      have hB8 := (hw5.has _ (.tail _ (.tail _ (.head _)))).keep hLT.1 fun h => n8 _ (.inl h) rfl
      refine GL.of_JL (C := Cls w6 No []) (Cls.start _ _) ?_
      repeat (first | (apply JL.y; (first | (apply Y_move; rfl) | (apply Y_assign; rfl)); rfl) | refine JL.nil ?_ | (apply JL.callq; rfl; rfl; (intro wc hwc; first | exact same_true (hO6.reads.ext0 hwc.ext) (hO6'.ext0 hwc.ext) (hz6.trans hzo.symm))) | refine J.inBlock ?_)
      refine J.imp (J.weak (hj (v', zr, O', E', _, _)) ⟨rfl, rfl, rfl, rfl, rfl, trivial⟩) fun w' hw' => PSt.ext0 ⟨hLR, hX6, hB8, fun k hk => ?_⟩ hw'.ext
      rcases hk with hk | hk | hk
      · rcases hOE' _ (.inl hk) with (h1 | h1) | h1
        · exact n8 _ (.inl h1)
        · exact n8 _ (.inr (.inl h1))
        · intro h; omega
      · rcases hOE' _ (.inr hk) with (h1 | h1) | h1
        · exact n8 _ (.inl h1)
        · exact n8 _ (.inr (.inl h1))
        · intro h; omega
      · exact (hKn k hk.1).2
    · -- Flush
      have n8 : ∀ k, O k ∨ E k ∨ K k → ¬ k = b8 := hP.nb
      rw [hk]
      repeat (first | (apply JL.y; (first | (apply Y_assign; rfl) | (apply Y_fieldAddr; rfl; rfl) | (apply Y_load1 0; rfl; rfl; rfl; exact inferInstance) | (apply Y_eql; rfl; rfl)); rfl) | refine J.seq ?_ | refine J.region ?_ | refine JL.nil ?_ | refine J.cond_t rfl ?_ | refine J.cond_f rfl ?_)
      apply JL.y (Y_rem rfl rfl (by decide)) rfl
      repeat (first | (apply JL.y; (apply Y_eql; rfl; rfl); rfl) | refine JL.nil ?_)
      refine J.cond_d rfl (fun h4 => ?_) (fun h4 => ?_)
      case refine_2 =>
        repeat (first | refine J.skip ?_ | refine J.inBlock ?_)
        exact J.imp (J.weak (hj (v, zs, O, E, K, ms)) ⟨rfl, rfl, rfl, rfl, rfl, trivial⟩) fun w' hw' => hP.ext0 (hstw hw' (by simp) (by simp))
      repeat (first | refine J.seq ?_)
      refine J.drawC (S := Cls w2 (fun k => k = b10 ∨ k = b8 ∨ O k) [_, _]) [] #[false, false, false, false, false, false] rfl rfl (fun w hw => ⟨hw.drew.ext.mono fun k _ h => h.elim .inl fun h => .inr (.inl h), hw.drew.has, hw.drew.apart, fun x hx => (hw.drew.mine x hx).imp (fun h => h.elim .inl fun h => .inr (.inl h)) id⟩) (fun w hC0 hS => ?_)
      have hC := hC0.drew
      generalize w.drew = wd at hS hC ⊢
      (apply DR.pure 0 #[true, false, false, false, false, false]; rfl; kernel_rfl; (apply Y_move; rfl); rfl)
      (apply DR.pure 2 #[true, false, true, false, false, false]; rfl; kernel_rfl; (apply Y_fieldAddr; rfl; rfl); rfl)
      (apply DR.take 3 #[true, false, true, true, false, false]; rfl; kernel_rfl; (first | (apply Y_load1 0; rfl; rfl; rfl; exact inferInstance) | (apply Y_load1 1; rfl; rfl; rfl; exact inferInstance) | (apply Y_load1 2; rfl; rfl; rfl; exact inferInstance) | (apply Y_load1 3; rfl; rfl; rfl; exact inferInstance) | (apply Y_loadW 0; rfl; rfl; exact inferInstance; rfl) | (apply Y_loadW 1; rfl; rfl; exact inferInstance; rfl) | (apply Y_loadW 2; rfl; rfl; exact inferInstance; rfl) | (apply Y_loadW 3; rfl; rfl; exact inferInstance; rfl)); rfl; exact hS)
      refine DR.call 1 #[true, true, true, true, false, false] (fun v6 w6 => ∃ zs6, Own 33 5 MsgC w6 (fun k => E k ∧ k < wd.heap.size) v6 zs6 ∧ zs6.map (·.2) = St.srt Msg.lane ms ∧ LTo wd w6 g O E ln' pl' []) rfl (by kernel_rfl) rfl rfl rfl ((laneFlush_spec (hP.lr.l.ext0 (hstw hC (by simp) (by simp)))).mono fun e w' ⟨r, h1, zs6, h2, h3, h4, h5⟩ => ⟨r, h1, zs6, h2, h4, h5⟩) (fun v6 w6 ⟨zs6, h2, h4, h5⟩ => hS.extA h5.1 (fun k _ h => .inr (.inr h)) (by simp; exact ⟨fun h => hn10 _ (.inl h) rfl, fun h => n8 _ (.inl h) rfl⟩)) (fun v6 w6 ⟨zs6, hO6, hz6, hLT⟩ hS => ?_)
      refine DR.callq 4 #[true, true, true, true, true, false] rfl (by kernel_rfl) rfl rfl rfl (same_true hO6.reads ((hP.lr.r.ext0 (hstw hC (by simp) (by simp))).ext hLT.1 fun k _ h1 h2 => (hP.lr.k1 k h1).1 h2) (hz6.trans hP.lr.eq.symm)) (fun w' hw' => hS.ext0 hw') (fun w7 hE7 hS => ?_)
      (apply DR.pure 5 #[true, true, true, true, true, true]; rfl; kernel_rfl; (apply Y_assign; rfl); rfl)
      refine DR.done (by kernel_rfl) ?_
      have hE2d := hstw hC (by simp) (by simp)
      have hB8 := hS.has _ (.tail _ (.head _))
      have hX7 : Ext No W w7 := ((hP.x.trans hE2d).then hLT.1 fun k h1 h2 => by have := hP.lr.oe k (.inl h2); omega).trans hE7
      have s2d := hE2d.size
      obtain ⟨O', E', hLR, hOE'⟩ := hLT.lr (W := W) (K := No) (v := .slice none 0 0) (zs := []) (hP.lr.l.ext0 hE2d) (Rd.nil _ _ _ _) (fun k h => h.elim) (fun k h => h.elim) hP.lr.oe (by omega) rfl
      have hLR7 := hLR.ext0 hE7
      refine J.at (C := Cls w7 (fun k => k = b8) [_]) ?_ (Cls.start1 hB8)
      repeat (first | (apply JL.y; (apply Y_fieldAddr; rfl; rfl); rfl) | refine J.region ?_ | refine JL.nil ?_ | (apply JL.store; (apply St_1 0; rfl; rfl; exact inferInstance; (first | rfl | assumption); rfl; rfl; (first | (focus (simp only [List.set_cons_zero, List.set_cons_succ]; done)) | (simp only [List.set_cons_zero, List.set_cons_succ]; rfl)))) | refine J.inBlock ?_)
      have hn : ∀ k, O' k ∨ E' k ∨ No k → k ≠ b8 := fun k hk => by
        rcases hk with hk | hk | hk
        · rcases hOE' _ (.inl hk) with (h1 | h1) | h1
          · exact n8 _ (.inl h1)
          · exact n8 _ (.inr (.inl h1))
          · intro h; omega
        · rcases hOE' _ (.inr hk) with (h1 | h1) | h1
          · exact n8 _ (.inl h1)
          · exact n8 _ (.inr (.inl h1))
          · intro h; omega
        · exact hk.elim
      exact J.imp (J.weak (hj (.slice none 0 0, [], O', E', No, [])) ⟨rfl, rfl, rfl, rfl, rfl, trivial⟩) fun w' hw' => ⟨hLR7.ext hw'.ext fun k h => ⟨fun h' => hn k (.inl h') h, fun h' => hn k (.inr (.inl h')) h, fun h => h⟩, hX7.then hw'.ext fun k h1 h2 => by omega, hw'.has _ (.head _), hn⟩
  obtain ⟨v, zs, O, E, K, ms⟩ := q
  simp only
  clear hP hlt1 hPb hPbo hn10 hlen hstw hB8 hB10
  refine J.intro fun w3 hP => J.at (C := Cls w3 (fun k => k = b8) [_]) ?_ (Cls.start1 hP.b)
  have hst3 : ∀ {H' : List Blk} {w' : World}, Cls w3 (fun k => k = b8) H' w' → (⟨b8, rlC ln' pl' v, 28⟩ : Blk) ∈ H' → Ext No w3 w' := fun h h1 => h.still fun k hk => ⟨_, h1, hk.symm, hP.b⟩
  have hlen := hP.lr.len
  have hlm : ms.length = zs.length := by have := congrArg List.length hP.lr.eq; rw [St.srt_len, List.length_map] at this; exact this.symm
  obtain ⟨Ar, cr, hvr, hcr, hmr⟩ := hP.lr.r.slice
  subst hvr
  unfold rlC
  unfold rlC at hst3
  repeat (first | refine J.seq ?_)
  refine J.draw (S := Cls _ _ _) [] #[false, false, false, false, false, false, false, false, false, false, false, false, false, false, false, false, false, false] rfl rfl (fun w hw => hw.drew) (fun w hS => ?_)
  (apply DR.pure 0 #[true, false, false, false, false, false, false, false, false, false, false, false, false, false, false, false, false, false]; rfl; kernel_rfl; (apply Y_move; rfl); rfl)
  (apply DR.pure 1 #[true, true, false, false, false, false, false, false, false, false, false, false, false, false, false, false, false, false]; rfl; kernel_rfl; (first | (apply Y_not_d; rfl) | (apply Y_not; rfl)); rfl)
  (apply DR.pure 2 #[true, true, true, false, false, false, false, false, false, false, false, false, false, false, false, false, false, false]; rfl; kernel_rfl; (apply Y_move; rfl); rfl)
  (apply DR.pureG 3 #[true, true, true, true, false, false, false, false, false, false, false, false, false, false, false, false, false, false]; rfl; rfl; rfl; rfl; kernel_rfl; (apply Y_move; rfl); rfl)
  (apply DR.pureG 5 #[true, true, true, true, false, true, false, false, false, false, false, false, false, false, false, false, false, false]; rfl; rfl; rfl; rfl; kernel_rfl; (apply Y_fieldAddr; rfl; rfl); rfl)
  (apply DR.takeG 6 #[true, true, true, true, false, true, true, false, false, false, false, false, false, false, false, false, false, false]; rfl; rfl; rfl; rfl; kernel_rfl; (first | (apply Y_load1 0; rfl; rfl; rfl; exact inferInstance) | (apply Y_load1 1; rfl; rfl; rfl; exact inferInstance) | (apply Y_load1 2; rfl; rfl; rfl; exact inferInstance) | (apply Y_load1 3; rfl; rfl; rfl; exact inferInstance) | (apply Y_loadW 0; rfl; rfl; exact inferInstance; rfl) | (apply Y_loadW 1; rfl; rfl; exact inferInstance; rfl) | (apply Y_loadW 2; rfl; rfl; exact inferInstance; rfl) | (apply Y_loadW 3; rfl; rfl; exact inferInstance; rfl)); rfl; exact hS)
  (apply DR.pureG 7 #[true, true, true, true, false, true, true, true, false, false, false, false, false, false, false, false, false, false]; rfl; rfl; rfl; rfl; kernel_rfl; (apply Y_len; rfl); rfl)
  refine DR.callqCG (v := .int .i64 ms.length) (cap := []) 4 #[true, true, true, true, true, true, true, true, false, false, false, false, false, false, false, false, false, false] rfl rfl rfl rfl (by kernel_rfl) rfl rfl inferInstance rfl rfl (laneLen_spec (hP.lr.l.ext0 (hst3 hS (by simp)))) (fun w' hw' => hS.ext0 hw') (fun w hE2 hS => ?_)
  (apply DR.takeG 8 #[true, true, true, true, true, true, true, true, true, false, false, false, false, false, false, false, false, false]; rfl; rfl; rfl; rfl; kernel_rfl; exact Y_neq_f rfl rfl (by omega); rfl; exact hS)
  (apply DR.pure 9 #[true, true, true, true, true, true, true, true, true, true, false, false, false, false, false, false, false, false]; rfl; kernel_rfl; (first | (apply Y_pick_t; rfl; rfl) | (apply Y_pick_f; rfl; rfl)); rfl)
  (apply DR.pure 10 #[true, true, true, true, true, true, true, true, true, true, true, false, false, false, false, false, false, false]; rfl; kernel_rfl; (apply Y_move; rfl); rfl)
  (apply DR.pureG 11 #[true, true, true, true, true, true, true, true, true, true, true, true, false, false, false, false, false, false]; rfl; rfl; rfl; rfl; kernel_rfl; (apply Y_move; rfl); rfl)
  (apply DR.pureG 13 #[true, true, true, true, true, true, true, true, true, true, true, true, false, true, false, false, false, false]; rfl; rfl; rfl; rfl; kernel_rfl; (apply Y_fieldAddr; rfl; rfl); rfl)
  (apply DR.takeG 14 #[true, true, true, true, true, true, true, true, true, true, true, true, false, true, true, false, false, false]; rfl; rfl; rfl; rfl; kernel_rfl; (first | (apply Y_load1 0; rfl; rfl; rfl; exact inferInstance) | (apply Y_load1 1; rfl; rfl; rfl; exact inferInstance) | (apply Y_load1 2; rfl; rfl; rfl; exact inferInstance) | (apply Y_load1 3; rfl; rfl; rfl; exact inferInstance) | (apply Y_loadW 0; rfl; rfl; exact inferInstance; rfl) | (apply Y_loadW 1; rfl; rfl; exact inferInstance; rfl) | (apply Y_loadW 2; rfl; rfl; exact inferInstance; rfl) | (apply Y_loadW 3; rfl; rfl; exact inferInstance; rfl)); rfl; exact hS)
  refine DR.callCG (cap := []) 12 #[true, true, true, true, true, true, true, true, true, true, true, true, true, true, true, false, false, false] (fun v6 w6 => Ext No _ w6 ∧ ∃ zs6, Rd 5 MsgC w6 All v6 zs6 ∧ zs6.map (·.2) = St.srt Msg.lane ms) rfl rfl rfl rfl (by kernel_rfl) rfl rfl inferInstance rfl rfl ((laneAll_spec (hP.lr.l.ext0 (hst3 hS (by simp)))).mono fun e w' ⟨r, h1, h2, zs6, h3, h4⟩ => ⟨r, h1, h2, zs6, h3.reads.mono fun _ _ _ => trivial, h4⟩) (fun v6 w6 h => hS.ext0 h.1) (fun v6 w6 ⟨hE6, zs6, hR6, hz6⟩ hS => ?_)
  refine DR.callqCG (v := .bool true) (cap := []) 15 #[true, true, true, true, true, true, true, true, true, true, true, true, true, true, true, true, false, false] rfl rfl rfl rfl (by kernel_rfl) rfl rfl inferInstance rfl rfl (same_true hR6 (hP.lr.r.ext0 (hst3 hS (by simp))) (hz6.trans hP.lr.eq.symm)) (fun w' hw' => hS.ext0 hw') (fun w hE2 hS => ?_)
  (apply DR.pureG 16 #[true, true, true, true, true, true, true, true, true, true, true, true, true, true, true, true, true, false]; rfl; rfl; rfl; rfl; kernel_rfl; (first | (apply Y_not_d; rfl) | (apply Y_not; rfl)); rfl)
  (apply DR.pure 17 #[true, true, true, true, true, true, true, true, true, true, true, true, true, true, true, true, true, true]; rfl; kernel_rfl; (first | (apply Y_pick_t; rfl; rfl) | (apply Y_pick_f; rfl; rfl)); rfl)
  refine DR.done (by kernel_rfl) ?_
  refine J.at (C := Cls _ _ _) ?_ hS
  repeat (first | (apply JL.y; (apply Y_assign; rfl); rfl) | refine J.seq ?_ | refine J.region ?_ | refine JL.nil ?_ | refine J.skip ?_ | refine J.cond_f rfl ?_ | refine J.block ?_)
  have hlp := hP.lr.l.hpl
  refine J.intro fun wl hwl => G.loop (Inv := fun mm e wl => ∃ (q : Int), -1 ≤ q ∧ q ≤ 4 ∧ mm = (4 - q).toNat ∧ Ext No w3 wl ∧ e = [(2, .slice (some ad) n c), (7, .pointer (some ⟨g, 0, none⟩)), (8, .pointer (some ⟨b8, 0, none⟩)), (9, .int .i64 i), (23, .int .i64 q)])
    _ _ ⟨-1, by omega, by omega, rfl, hst3 hwl (by simp), rfl⟩ ⟨rfl, rfl, rfl, rfl, rfl, trivial⟩ ?_
  rintro mm e w4 ⟨q, hq1, hq4, rfl, hE34, rfl⟩ ih2
  have hB4 := hP.b.ext0 hE34
  unfold rlC at hB4
  have hP4 := hP.ext0 hE34
  have hst4 : ∀ {H' : List Blk} {w' : World}, Cls w4 (fun k => k = b8) H' w' → (⟨b8, [.int .i64 ln', .int .i64 pl', .slice Ar zs.length cr], 28⟩ : Blk) ∈ H' → Ext No w4 w' := fun h h1 => h.still fun k hk => ⟨_, h1, hk.symm, hB4⟩
  have hrm : room ln' pl' (zs.map (·.2)) q = room ln' pl' ms q := by rw [hP.lr.eq, room_srt]
  have hfl : (zs.map (·.2)).filter (fun m => m.lane == q) = ms.filter (fun m => m.lane == q) := by rw [hP.lr.eq, filt_srt]
  refine J.at (C := Cls w4 (fun k => k = b8) [_]) ?_ (Cls.start1 hB4)
  repeat (first | (apply JL.y; (first | (apply Y_move; rfl) | (apply Y_lss; rfl; rfl)); rfl) | refine J.seq ?_ | refine J.region ?_ | refine JL.nil ?_)
  refine J.cond_d rfl (fun hq => ?_) (fun hq => ?_)
  · repeat (first | refine J.seq ?_ | refine J.skip ?_ | refine J.block ?_)
    refine J.draw (S := Cls _ _ _) [] #[false, false, false, false, false, false, false, false, false, false, false, false, false, false, false, false, false] rfl rfl (fun w hw => hw.drew) (fun w hS => ?_)
    (apply DR.pure 0 #[true, false, false, false, false, false, false, false, false, false, false, false, false, false, false, false, false]; rfl; kernel_rfl; (apply Y_move; rfl); rfl)
    (apply DR.pure 1 #[true, true, false, false, false, false, false, false, false, false, false, false, false, false, false, false, false]; rfl; kernel_rfl; (apply Y_move; rfl); rfl)
    (apply DR.take 3 #[true, true, false, true, false, false, false, false, false, false, false, false, false, false, false, false, false]; rfl; kernel_rfl; (first | (apply Y_load1 0; rfl; rfl; rfl; exact inferInstance) | (apply Y_load1 1; rfl; rfl; rfl; exact inferInstance) | (apply Y_load1 2; rfl; rfl; rfl; exact inferInstance) | (apply Y_load1 3; rfl; rfl; rfl; exact inferInstance) | (apply Y_loadW 0; rfl; rfl; exact inferInstance; rfl) | (apply Y_loadW 1; rfl; rfl; exact inferInstance; rfl) | (apply Y_loadW 2; rfl; rfl; exact inferInstance; rfl) | (apply Y_loadW 3; rfl; rfl; exact inferInstance; rfl)); rfl; exact hS)
    (apply DR.pure 4 #[true, true, false, true, true, false, false, false, false, false, false, false, false, false, false, false, false]; rfl; kernel_rfl; (apply Y_move; rfl); rfl)
    refine DR.callq 2 #[true, true, true, true, true, false, false, false, false, false, false, false, false, false, false, false, false] rfl (by kernel_rfl) rfl rfl rfl (laneRoom_spec (hP4.lr.l.ext0 (hst4 hS (by simp))) q) (fun w' hw' => hS.ext0 hw') (fun w hE2 hS => ?_)
    refine DR.callq 5 #[true, true, true, true, true, true, false, false, false, false, false, false, false, false, false, false, false] rfl (by kernel_rfl) rfl rfl rfl (rRoom_spec (ln := ln') (pl := pl') (hP4.lr.r.ext0 (hst4 hS (by simp))) (by omega) (by omega) q) (fun w' hw' => hS.ext0 hw') (fun w hE2 hS => ?_)
    (apply DR.take 6 #[true, true, true, true, true, true, true, false, false, false, false, false, false, false, false, false, false]; rfl; kernel_rfl; exact Y_neq_f rfl rfl hrm.symm; rfl; exact hS)
    (apply DR.pure 7 #[true, true, true, true, true, true, true, true, false, false, false, false, false, false, false, false, false]; rfl; kernel_rfl; (apply Y_move; rfl); rfl)
    (apply DR.pureG 8 #[true, true, true, true, true, true, true, true, true, false, false, false, false, false, false, false, false]; rfl; rfl; rfl; rfl; kernel_rfl; (apply Y_move; rfl); rfl)
    (apply DR.pureG 9 #[true, true, true, true, true, true, true, true, true, true, false, false, false, false, false, false, false]; rfl; rfl; rfl; rfl; kernel_rfl; (apply Y_move; rfl); rfl)
    (apply DR.takeG 11 #[true, true, true, true, true, true, true, true, true, true, false, true, false, false, false, false, false]; rfl; rfl; rfl; rfl; kernel_rfl; (first | (apply Y_load1 0; rfl; rfl; rfl; exact inferInstance) | (apply Y_load1 1; rfl; rfl; rfl; exact inferInstance) | (apply Y_load1 2; rfl; rfl; rfl; exact inferInstance) | (apply Y_load1 3; rfl; rfl; rfl; exact inferInstance) | (apply Y_loadW 0; rfl; rfl; exact inferInstance; rfl) | (apply Y_loadW 1; rfl; rfl; exact inferInstance; rfl) | (apply Y_loadW 2; rfl; rfl; exact inferInstance; rfl) | (apply Y_loadW 3; rfl; rfl; exact inferInstance; rfl)); rfl; exact hS)
    (apply DR.pureG 12 #[true, true, true, true, true, true, true, true, true, true, false, true, true, false, false, false, false]; rfl; rfl; rfl; rfl; kernel_rfl; (apply Y_move; rfl); rfl)
    refine DR.callCG (cap := []) 10 #[true, true, true, true, true, true, true, true, true, true, true, true, true, false, false, false, false] (fun v6 w6 => Ext No _ w6 ∧ ∃ zs6, Rd 5 MsgC w6 All v6 zs6 ∧ zs6.map (·.2) = ms.filter (fun m => m.lane == q)) rfl rfl rfl rfl (by kernel_rfl) rfl rfl inferInstance rfl rfl ((laneOf_spec (hP4.lr.l.ext0 (hst4 hS (by simp))) q).mono fun e w' ⟨r, h1, h2, zs6, h3, h4⟩ => ⟨r, h1, h2, zs6, h3.mono fun _ _ _ => trivial, h4⟩) (fun v6 w6 h => hS.ext0 h.1) (fun v6 w6 ⟨hE6, zs6, hR6, hz6⟩ hS => ?_)
    refine DR.callCG (cap := []) 13 #[true, true, true, true, true, true, true, true, true, true, true, true, true, true, false, false, false] (fun v7 w7 => Ext No w6 w7 ∧ ∃ zs7, Rd 5 MsgC w7 All v7 zs7 ∧ zs7.map (·.2) = ms.filter (fun m => m.lane == q)) rfl rfl rfl rfl (by kernel_rfl) rfl rfl inferInstance rfl rfl ((rOf_spec (ln := ln') (pl := pl') (hP4.lr.r.ext0 (hst4 hS (by simp))) (by omega) q).mono fun e w' ⟨r, h1, h2, zs6, h3, h4⟩ => ⟨r, h1, h2, zs6, h3.rd.mono fun _ _ _ => trivial, h4.trans hfl⟩) (fun v6 w6 h => hS.ext0 h.1) (fun v7 w7 ⟨hE7, zs7, hR7, hz7⟩ hS => ?_)
    refine DR.callqCG (v := .bool true) (cap := []) 14 #[true, true, true, true, true, true, true, true, true, true, true, true, true, true, true, false, false] rfl rfl rfl rfl (by kernel_rfl) rfl rfl inferInstance rfl rfl (same_true (hR6.ext0 hE7) hR7 (hz6.trans hz7.symm)) (fun w' hw' => hS.ext0 hw') (fun w hE2 hS => ?_)
    (apply DR.pureG 15 #[true, true, true, true, true, true, true, true, true, true, true, true, true, true, true, true, false]; rfl; rfl; rfl; rfl; kernel_rfl; (first | (apply Y_not_d; rfl) | (apply Y_not; rfl)); rfl)
    (apply DR.pure 16 #[true, true, true, true, true, true, true, true, true, true, true, true, true, true, true, true, true]; rfl; kernel_rfl; (first | (apply Y_pick_t; rfl; rfl) | (apply Y_pick_f; rfl; rfl)); rfl)
    refine DR.done (by kernel_rfl) ?_
    refine J.at (C := Cls _ _ _) ?_ hS
    repeat (first | (apply JL.y; (first | (apply Y_move; rfl) | (apply Y_assign; rfl) | (apply Y_add; rfl; rfl; omega)); rfl) | refine J.region ?_ | refine JL.nil ?_ | refine J.skip ?_ | refine J.cond_f rfl ?_ | refine J.inBlock ?_)
    refine J.intro fun w5 hw5 => ih2 (4 - (q + 1)).toNat (by omega) _ _ w5 ?_ ⟨q + 1, by omega, by omega, rfl, hE34.trans (hst4 hw5 (by simp)), rfl⟩
    exact ⟨rfl, rfl, rfl, rfl, rfl, trivial⟩
  · repeat (first | (apply JL.y; (first | (apply Y_move; rfl) | (apply Y_assign; rfl) | (apply Y_add; rfl; rfl; omega)); rfl) | refine J.region ?_ | refine JL.nil ?_ | refine J.inBlock ?_ | (apply J.exit; rfl))
    refine J.intro fun w5 hw5 => ih (n - (i + 1)) (by omega) _ _ w5 ?_ ⟨i + 1, _, _, _, _, _, _, by omega, rfl, hP4.ext0 (hst4 hw5 (by simp)), rfl⟩
    exact ⟨rfl, rfl, rfl, rfl, trivial⟩
end Go.Proofs.Ytmkpbbdocndfbaa
