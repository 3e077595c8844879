/- law 12: the document's example. -/
import Derived.Test.YtmkpbbdocndfbaaGate2
namespace Go.Proofs.Ytmkpbbdocndfbaa
open Go.RowKit Go.Proofs
attribute [local irreducible] Yl JL J G GL GA GQ DR DRA

def plainC : Ch := ⟨1, 0, 1, 1, 0, 1, 1, 1, 5, 0, 9⟩
theorem plain_spec (w : World) : Calls Try.prog 119 #[] w fun e w' => e = .returned (.agg (chC plainC).toArray) ∧ Ext No w w' := by
  refine Calls.of_G0 Try.func119 rfl Try.ntmps119 ?_
  refine J.at (C := Cls w No []) ?_ (Cls.start _ _)
  repeat (first | (apply JL.y; (apply Y_build; rfl; exact inferInstance); rfl) | refine J.seq ?_ | refine J.region ?_ | refine JL.nil ?_ | (apply JL.alloc; rfl; rfl; intro _) | (apply JL.store; (apply St_W 0; rfl; rfl; rfl; exact inferInstance; rfl; rfl; (first | (focus (simp [Value.oneCell']; done)) | (simp [Value.oneCell']; assumption) | (simp [Value.oneCell']; exact ⟨by assumption, by assumption⟩)); (first | (focus (simp only [List.set_cons_zero]; done)) | (simp only [List.set_cons_zero]; rfl)))))
  refine J.ret1 Try.func119 Try.results119 (RV.W 0 rfl rfl rfl) fun w' hw' => ⟨rfl, hw'.ext⟩
theorem RInts.of_blk {w : World} {b : Nat} {t : TypeId} {x : Int} (h : BlkIn w ⟨b, [.int .i64 x], t⟩) : Foot (fun w => RInts w (.slice (some ⟨b, 0, none⟩) 1 1) [x]) w (fun q => q = b) :=
  h.foot.imp fun w hw => (Row.of_blk (el := t) (sz := 1) (chs := ints [x]) hw rfl (ints_size _) rfl (by simp [maxLen, ints])).rrow
set_option maxHeartbeats 1000000 in
theorem lives12_spec (W : World) : Calls Try.prog 48 #[] W fun e w' => e = .returned (.bool true) ∧ Ext No W w' := by
  refine Calls.of_G0 Try.func48 rfl Try.ntmps48 ?_
  refine J.at (C := Cls W No []) ?_ (Cls.start _ _)
  repeat (first | (apply JL.y; (apply Y_assign; rfl); rfl) | refine J.seq ?_ | refine J.region ?_ | refine JL.nil ?_ | (apply JL.callq; rfl; rfl; (intro wc hwc; first | exact plain_spec _)))
  refine JL.call _ rfl rfl (fun w1 hw1 => gNew_spec plainC w1) fun w1 r w2 hw1 ⟨g, gl, gb, hr, hE2, hG2, hgl, hll, hbl⟩ => ?_
  subst hr
  have hX2 := hw1.ext.trans hE2
  have s1 := hw1.ext.size
  have s2 := hE2.size
  have hlt2 : ∀ {q : Nat}, GB g gb (fun q => q = gl) q ∨ No q → q < w2.heap.size := fun hq => hG2.lt hq
  refine GL.of_JL (C := Cls w2 No []) (Cls.start _ _) ?_
  repeat (first | (apply JL.y; (first | (apply Y_move; rfl) | (apply Y_assign; rfl)); rfl) | refine J.seq ?_ | refine J.region ?_ | refine JL.nil ?_ | (apply JL.bslice1; rfl; rfl; rfl; rfl; rfl; rfl; intro _))
  rename_i bw
  refine JL.call _ rfl rfl (fun w3 hw3 => gOffer_spec (hG2.ext0 hw3.ext) (by omega) (RInts.of_blk (hw3.has _ (.head _))) (fun q h1 h2 => by
    have := hlt2 (.inl h2)
    have : w2.heap.size ≤ bw := hw3.fresh fun _ h => h.elim
    omega) (by simp) 0 0 3 0) fun w3 r w4 hw3 ⟨vm, hr, hE4, M4, O4, E4, hF4, hM4, hG4, hO4, hE4'⟩ => ?_
  rw [show cl 1 64 plainC.cap = 9 by decide] at hr hF4 hG4
  rw [show offR plainC [] 9 0 0 0 0 [7] 3 0 = ⟨⟨[7], 0, 3, 8, 1⟩, 0, [⟨[7], 0, 3, 8, 1⟩], 8, 0, 1⟩ by decide] at hr hF4 hG4
  subst hr
  obtain ⟨ws4, rfl, hFw4, _, how4⟩ := RMsg.open_ hF4
  have s23 := hw3.ext.size
  have s34 := hE4.size
  have hn4 : ∀ q, GB g gb O4 q ∨ E4 q → W.heap.size ≤ q := fun q hq => by
    rcases hq with (rfl | rfl | h) | h
    · omega
    · omega
    · rcases hO4 q h with rfl | h <;> omega
    · rcases hE4' q h with h | h
      · exact h.elim
      · omega
  have hX4 : Ext No W w4 := (hX2.trans hw3.ext).then hE4 fun q h1 h2 => by
    rcases h2 with rfl | rfl | rfl <;> omega
  have hlt4 : ∀ {q : Nat}, GB g gb O4 q ∨ E4 q → q < w4.heap.size := fun hq => hG4.lt hq
  refine GL.of_JL (C := Cls w4 No []) (Cls.start _ _) ?_
  unfold msgC
  repeat (first | (apply JL.y; (first | (apply Y_move; rfl) | (apply Y_assign; rfl) | (apply Y_extract; rfl; rfl)); rfl) | refine J.seq ?_ | refine J.region ?_ | refine JL.nil ?_ | (apply JL.alloc; rfl; rfl; intro _) | (apply JL.bslice1; rfl; rfl; rfl; rfl; rfl; rfl; intro _) | (apply JL.store; (apply St_W 0; rfl; rfl; rfl; exact inferInstance; rfl; rfl; (first | (focus (simp [Value.oneCell']; done)) | (simp [Value.oneCell']; assumption) | (simp [Value.oneCell']; exact ⟨by assumption, by assumption⟩)); (first | (focus (simp only [List.set_cons_zero]; done)) | (simp only [List.set_cons_zero]; rfl)))))
  rename_i b2 bw2
  refine JL.call _ rfl rfl (fun w5 hw5 => gOffer_spec (hG4.ext0 hw5.ext) (by simp only; omega) (RInts.of_blk (hw5.has _ (.head _))) (fun q h1 h2 => by
    have := hlt4 (.inl h2)
    have : w4.heap.size ≤ bw2 := (hw5.mine _ (.head _)).resolve_left id
    omega) (by simp) 0 0 3 0) fun w5 r w6 hw5 ⟨vm, hr, hE6, M6, O6, E6, hF6, hM6, hG6, hO6, hE6'⟩ => ?_
  simp only at hr hF6 hG6
  rw [show offR plainC [⟨[7], 0, 3, 8, 1⟩] 8 0 1 0 0 [8] 3 0 = ⟨zeroMsg, 2, [⟨[7], 0, 3, 8, 1⟩], 8, 0, 1⟩ by decide] at hr hF6 hG6
  subst hr
  obtain ⟨ws6, rfl, hFw6, _, how6⟩ := RMsg.open_ hF6
  have s45 := hw5.ext.size
  have s56 := hE6.size
  have b2l : w4.heap.size ≤ b2 := (hw5.mine _ (.tail _ (.head _))).resolve_left id
  have hB2 := (hw5.has _ (.tail _ (.head _))).keep hE6 fun h => by have := hlt4 (.inl h); simp only at this; omega
  have hX6 : Ext No W w6 := (hX4.trans hw5.ext).then hE6 fun q h1 h2 => by have := hn4 q (.inl h2); omega
  have hGn : ∀ q, GB g gb O6 q ∨ E6 q → W.heap.size ≤ q ∧ q ≠ b2 := fun q hq => by
    rcases hq with (rfl | rfl | h) | h
    · have := hlt4 (.inl (.inl rfl)); omega
    · have := hlt4 (.inl (.inr (.inl rfl))); omega
    · rcases hO6 q h with h | h
      · have := hlt4 (.inl (.inr (.inr h))); have := hn4 q (.inl (.inr (.inr h))); omega
      · have := (hw5.has _ (.tail _ (.head _))).lt; simp only at this; omega
    · rcases hE6' q h with h | h
      · have := hlt4 (.inr h); have := hn4 q (.inr h); omega
      · have := (hw5.has _ (.tail _ (.head _))).lt; simp only at this; omega
  refine GL.of_JL (C := Cls w6 (fun q => q = b2) [_]) (Cls.start1 hB2) ?_
  unfold msgC
  have hst : ∀ {H' : List Blk} {w' : World}, Cls w6 (fun q => q = b2) H' w' → (⟨b2, [ws4, .int .i64 0, .int .i64 3, .int .i64 8, .int .i64 1], 33⟩ : Blk) ∈ H' → Ext No w6 w' := fun h h1 => h.still fun q hq => ⟨_, h1, hq.symm, hB2⟩
  repeat (first | (apply JL.y; (first | (apply Y_move; rfl) | (apply Y_assign; rfl) | (apply Y_fieldAddr; rfl; rfl) | (apply Y_load1 1; rfl; rfl; rfl; exact inferInstance) | (apply Y_extract; rfl; rfl) | (apply Y_eql; rfl; rfl) | (apply Y_pick_t; rfl; rfl)); rfl) | refine J.seq ?_ | refine J.region ?_ | refine JL.nil ?_ | (apply JL.callq; rfl; rfl; (intro wc hwc; first | exact gLen_spec (hG6.ext0 (hst hwc (by simp))))) | (apply JL.alloc; rfl; rfl; intro _) | (apply JL.store; (apply St_W 0; rfl; rfl; rfl; exact inferInstance; rfl; rfl; (first | (focus (simp [Value.oneCell']; done)) | (simp [Value.oneCell']; assumption) | (simp [Value.oneCell']; exact ⟨by assumption, by assumption⟩)); (first | (focus (simp only [List.set_cons_zero]; done)) | (simp only [List.set_cons_zero]; rfl)))) | (apply JL.guard_yes; rfl; rfl; rfl))
  refine JL.call _ rfl rfl (fun w7 hw7 => gTokens_spec (hG6.ext0 (hst hw7 (by simp))) 0) fun w7 r w8 hw7 ⟨hr, hE8, _⟩ => ?_
  simp only at hr
  rw [show bTok (cl 0 64 plainC.rate) (cl 1 64 plainC.cap) 8 0 0 = 8 by decide] at hr
  subst hr
  have hX8 : Ext No W w8 := (hX6.trans (hst hw7 (by simp))).then hE8 fun q h1 h2 => by have := hGn q (.inl (.inr (.inl h2))); omega
  refine GL.of_JL (C := Cls w8 No []) (Cls.start _ _) ?_
  repeat (first | (apply JL.y; (first | (apply Y_assign; rfl) | (apply Y_eql; rfl; rfl) | (apply Y_pick_t; rfl; rfl)); rfl) | refine JL.nil ?_ | (apply JL.guard_yes; rfl; rfl; rfl))
  exact J.ret1 Try.func48 Try.results48 (RV.tm rfl) fun w' hw' => ⟨rfl, hX8.trans hw'.ext⟩
end Go.Proofs.Ytmkpbbdocndfbaa
