/- The gate: the object, and all but Offer. -/
import Derived.Test.YtmkpbbdocndfbaaUBG
namespace Go.Proofs.Ytmkpbbdocndfbaa
open Go.RowKit Go.Proofs
attribute [local irreducible] Yl JL J G GL GA GQ DR DRA

def gC (k : Ch) (gl gb : Nat) (seq : Int) : List Value := [.int .i64 k.kind, .int .i64 k.from_, .int .i64 k.to, .int .i64 k.words, .int .i64 k.refresh, .int .i64 k.lanes, .int .i64 k.depth, .int .i64 k.hold, .int .i64 k.life, .int .i64 k.rate, .int .i64 k.cap, .pointer (some ⟨gl, 0, none⟩), .pointer (some ⟨gb, 0, none⟩), .int .i64 seq]
/-- A gate at g, its lanes at gl, its bucket at gb. -/
structure GObj (w : World) (g gl gb : Nat) (Ol E : Nat → Prop) (k : Ch) (ms : List Msg) (t rd seq : Int) : Prop where
  b : BlkIn w ⟨g, gC k gl gb seq, 157⟩
  l : LObj w gl Ol E (cl 1 3 k.lanes) (cl 1 8 k.depth) ms
  kb : BlkIn w ⟨gb, bC (cl 0 64 k.rate) (cl 1 64 k.cap) t rd, 189⟩
  bi : BIn (cl 0 64 k.rate) (cl 1 64 k.cap) t rd
  ne : g ≠ gb
  og : ¬ Ol g ∧ ¬ E g
  ob : ¬ Ol gb ∧ ¬ E gb
/-- The gate's blocks. -/
def GB (g gb : Nat) (Ol : Nat → Prop) (q : Nat) : Prop := q = g ∨ q = gb ∨ Ol q
/-- A gate behind an operation. -/
def GTo (w w' : World) (g gl gb : Nat) (Ol E : Nat → Prop) (k : Ch) (ms : List Msg) (t rd seq : Int) : Prop :=
  Ext (GB g gb Ol) w w' ∧ ∃ Ol' E', GObj w' g gl gb Ol' E' k ms t rd seq ∧ (∀ q, Ol' q → Ol q ∨ w.heap.size ≤ q) ∧ (∀ q, E' q → E q ∨ w.heap.size ≤ q)
section
variable {w w1 w' : World} {g gl gb : Nat} {Ol E D : Nat → Prop} {k : Ch} {ms ms' : List Msg} {t rd seq : Int}
theorem GObj.ext (h : GObj w g gl gb Ol E k ms t rd seq) (he : Ext D w w1) (hd : ∀ q, GB g gb Ol q ∨ E q → ¬ D q) : GObj w1 g gl gb Ol E k ms t rd seq :=
  ⟨h.b.keep he (hd g (.inl (.inl rfl))), h.l.ext he fun q hq => hq.elim (fun h => hd q (.inl (.inr (.inr h)))) fun h => hd q (.inr h), h.kb.keep he (hd gb (.inl (.inr (.inl rfl)))), h.bi, h.ne, h.og, h.ob⟩
theorem GObj.ext0 (h : GObj w g gl gb Ol E k ms t rd seq) (he : Ext No w w1) : GObj w1 g gl gb Ol E k ms t rd seq := h.ext he fun _ _ h => h
theorem GObj.lt (h : GObj w g gl gb Ol E k ms t rd seq) {q : Nat} (hq : GB g gb Ol q ∨ E q) : q < w.heap.size := by
  rcases hq with (rfl | rfl | hq) | hq
  · exact h.b.lt
  · exact h.kb.lt
  · exact h.l.lt q (.inl hq)
  · exact h.l.lt q (.inr hq)
theorem GObj.ne_ (h : GObj w g gl gb Ol E k ms t rd seq) {q : Nat} (hq : GB g gb Ol q) : ¬ E q := by
  rcases hq with rfl | rfl | hq
  · exact h.og.2
  · exact h.ob.2
  · exact h.l.oe q hq
/-- The lanes have turned. -/
theorem GObj.lane (h : GObj w g gl gb Ol E k ms t rd seq) (hl : LTo w w' gl Ol E (cl 1 3 k.lanes) (cl 1 8 k.depth) ms') : GTo w w' g gl gb Ol E k ms' t rd seq := by
  obtain ⟨hE, O', E', hL, hO, hE', -, -⟩ := hl.open_
  have hlg := h.lt (.inl (.inl rfl))
  have hlb := h.lt (.inl (.inr (.inl rfl)))
  refine ⟨hE.mono fun q _ hq => .inr (.inr hq), O', E', ⟨h.b.keep hE h.og.1, hL, h.kb.keep hE h.ob.1, h.bi, h.ne, ⟨fun h1 => ?_, fun h1 => ?_⟩, ⟨fun h1 => ?_, fun h1 => ?_⟩⟩, hO, hE'⟩
  · rcases hO _ h1 with h2 | h2
    · exact h.og.1 h2
    · omega
  · rcases hE' _ h1 with h2 | h2
    · exact h.og.2 h2
    · omega
  · rcases hO _ h1 with h2 | h2
    · exact h.ob.1 h2
    · omega
  · rcases hE' _ h1 with h2 | h2
    · exact h.ob.2 h2
    · omega
/-- The bucket has turned. -/
theorem GObj.bucket (h : GObj w g gl gb Ol E k ms t rd seq) {t' rd' : Int} (he : Ext (fun q => q = gb) w w') (hB : BlkIn w' ⟨gb, bC (cl 0 64 k.rate) (cl 1 64 k.cap) t' rd', 189⟩) (hb : BIn (cl 0 64 k.rate) (cl 1 64 k.cap) t' rd') : GObj w' g gl gb Ol E k ms t' rd' seq :=
  ⟨h.b.keep he h.ne, h.l.ext he fun q hq hg => by
    subst hg
    exact hq.elim h.ob.1 h.ob.2, hB, hb, h.ne, h.og, h.ob⟩
/-- The number has turned. -/
theorem GObj.num (h : GObj w g gl gb Ol E k ms t rd seq) {seq' : Int} (he : Ext (fun q => q = g) w w') (hB : BlkIn w' ⟨g, gC k gl gb seq', 157⟩) : GObj w' g gl gb Ol E k ms t rd seq' :=
  ⟨hB, h.l.ext he fun q hq hg => by
    subst hg
    exact hq.elim h.og.1 h.og.2, h.kb.keep he (fun h' => h.ne h'.symm), h.bi, h.ne, h.og, h.ob⟩
theorem GTo.same (h : GObj w g gl gb Ol E k ms t rd seq) (he : Ext No w w') : GTo w w' g gl gb Ol E k ms t rd seq := ⟨he.no, Ol, E, h.ext0 he, fun _ h => .inl h, fun _ h => .inl h⟩
/-- lanes. -/
theorem gLanes_spec (h : GObj w g gl gb Ol E k ms t rd seq) : Calls Try.prog 127 #[.pointer (some ⟨g, 0, none⟩)] w fun e w' => e = .returned (.pointer (some ⟨gl, 0, none⟩)) ∧ Ext No w w' := by
  have hb := h.b
  refine Calls.of_G1 Try.func127 rfl Try.ntmps127 rfl ?_
  refine J.at (C := Cls w (fun q => q = g) [_]) ?_ (Cls.start1 hb)
  unfold gC
  repeat (first | (apply JL.y; (first | (apply Y_move; rfl) | (apply Y_assign; rfl) | (apply Y_fieldAddr; rfl; rfl) | (apply Y_load1 0; rfl; rfl; rfl; exact inferInstance) | (apply Y_nilCheck; rfl) | (apply Y_pnil_f; rfl)); rfl) | refine J.seq ?_ | refine J.region ?_ | refine JL.nil ?_ | refine J.skip ?_ | refine J.cond_f rfl ?_)
  exact J.ret1 Try.func127 Try.results127 (RV.tm rfl) fun w' hw' => ⟨rfl, hw'.still fun q hq => ⟨_, .head _, hq.symm, hb⟩⟩
/-- Len. -/
theorem gLen_spec (h : GObj w g gl gb Ol E k ms t rd seq) : Calls Try.prog 56 #[.pointer (some ⟨g, 0, none⟩)] w fun e w' => e = .returned (.int .i64 ms.length) ∧ Ext No w w' := by
  refine Calls.of_G1 Try.func56 rfl Try.ntmps56 rfl ?_
  refine J.at (C := Cls w No []) ?_ (Cls.start _ _)
  repeat (first | (apply JL.y; (first | (apply Y_move; rfl) | (apply Y_assign; rfl)); rfl) | refine J.seq ?_ | refine J.region ?_ | refine JL.nil ?_ | (apply JL.callq; rfl; rfl; (intro wc hwc; first | exact gLanes_spec (h.ext0 hwc.ext) | exact laneLen_spec (h.l.ext0 hwc.ext))))
  exact J.ret1 Try.func56 Try.results56 (RV.tm rfl) fun w' hw' => ⟨rfl, hw'.ext⟩
/-- Seq. -/
theorem gSeq_spec (h : GObj w g gl gb Ol E k ms t rd seq) : Calls Try.prog 63 #[.pointer (some ⟨g, 0, none⟩)] w fun e w' => e = .returned (.int .i64 seq) ∧ Ext No w w' := by
  have hb := h.b
  refine Calls.of_G1 Try.func63 rfl Try.ntmps63 rfl ?_
  refine J.at (C := Cls w (fun q => q = g) [_]) ?_ (Cls.start1 hb)
  unfold gC
  repeat (first | (apply JL.y; (first | (apply Y_move; rfl) | (apply Y_assign; rfl) | (apply Y_fieldAddr; rfl; rfl) | (apply Y_load1 0; rfl; rfl; rfl; exact inferInstance) | (apply Y_nilCheck; rfl) | (apply Y_pnil_f; rfl)); rfl) | refine J.seq ?_ | refine J.region ?_ | refine JL.nil ?_ | refine J.skip ?_ | refine J.cond_f rfl ?_)
  exact J.ret1 Try.func63 Try.results63 (RV.tm rfl) fun w' hw' => ⟨rfl, hw'.still fun q hq => ⟨_, .head _, hq.symm, hb⟩⟩
/-- Tokens. -/
theorem gTokens_spec (h : GObj w g gl gb Ol E k ms t rd seq) (round : Int) : Calls Try.prog 59 #[.pointer (some ⟨g, 0, none⟩), .int .i64 round] w fun e w' => ∃ r, e = .returned r ∧ r = .int .i64 (bTok (cl 0 64 k.rate) (cl 1 64 k.cap) t rd round) ∧ Ext (fun q => q = gb) w w' ∧ GObj w' g gl gb Ol E k ms (bTok (cl 0 64 k.rate) (cl 1 64 k.cap) t rd round) (bRnd rd round) seq := by
  have hb := h.b
  refine Calls.of_G2 Try.func59 rfl Try.ntmps59 rfl ?_
  refine J.at (C := Cls w (fun q => q = g) [_]) ?_ (Cls.start1 hb)
  unfold gC
  repeat (first | (apply JL.y; (first | (apply Y_move; rfl) | (apply Y_assign; rfl) | (apply Y_fieldAddr; rfl; rfl) | (apply Y_load1 0; rfl; rfl; rfl; exact inferInstance) | (apply Y_nilCheck; rfl) | (apply Y_pnil_f; rfl)); rfl) | refine J.seq ?_ | refine J.region ?_ | refine JL.nil ?_ | refine J.skip ?_ | refine J.cond_f rfl ?_)
  refine JL.call (fun w1 v w2 => v = .int .i64 (bTok (cl 0 64 k.rate) (cl 1 64 k.cap) t rd round) ∧ Ext (fun q => q = gb) w1 w2 ∧ BlkIn w2 ⟨gb, bC (cl 0 64 k.rate) (cl 1 64 k.cap) (bTok (cl 0 64 k.rate) (cl 1 64 k.cap) t rd round) (bRnd rd round), 189⟩) rfl rfl (fun w1 hw1 => (bTokens_spec (h.kb.ext0 (hw1.still fun q hq => ⟨_, .head _, hq.symm, hb⟩)) h.bi round).mono fun e w' he => ⟨_, he.1, rfl, he.2⟩) fun w1 x w2 hw1 ⟨hx, hE, hB⟩ => ?_
  subst hx
  have hE01 := hw1.still fun q hq => ⟨_, .head _, hq.symm, hb⟩
  refine GL.of_JL (C := Cls w2 No []) (Cls.start _ _) ?_
  repeat (first | (apply JL.y; (apply Y_assign; rfl); rfl) | refine JL.nil ?_)
  exact J.ret1 Try.func59 Try.results59 (RV.tm rfl) fun w' hw' => ⟨_, rfl, rfl, (hE01.no.trans hE).thenNo hw'.ext, ((h.ext0 hE01).bucket hE hB (h.bi.come round)).ext0 hw'.ext⟩
/-- All. -/
theorem gAll_spec (h : GObj w g gl gb Ol E k ms t rd seq) : Calls Try.prog 58 #[.pointer (some ⟨g, 0, none⟩)] w fun e w' => ∃ r, e = .returned r ∧ Ext No w w' ∧ ∃ zs, New 33 5 MsgC w w' r zs ∧ zs.map (·.2) = St.srt Msg.lane ms := by
  refine Calls.of_G1 Try.func58 rfl Try.ntmps58 rfl ?_
  refine J.at (C := Cls w No []) ?_ (Cls.start _ _)
  repeat (first | (apply JL.y; (first | (apply Y_move; rfl) | (apply Y_assign; rfl)); rfl) | refine J.seq ?_ | refine J.region ?_ | refine JL.nil ?_ | (apply JL.callq; rfl; rfl; (intro wc hwc; first | exact gLanes_spec (h.ext0 hwc.ext))))
  refine JL.call _ rfl rfl (fun w1 hw1 => laneAll_spec (h.l.ext0 hw1.ext)) fun w1 r w2 hw1 ⟨hE, zs, hN, hz⟩ => ?_
  refine GL.of_JL (C := Cls w2 No []) (Cls.start _ _) ?_
  repeat (first | (apply JL.y; (apply Y_assign; rfl); rfl) | refine JL.nil ?_)
  exact J.ret1 Try.func58 Try.results58 (RV.tm rfl) fun w' hw' => ⟨_, rfl, (hw1.ext.trans hE).trans hw'.ext, zs, (hN.ext0 hw'.ext).elder hw1.ext.size, hz⟩
theorem LTo.pre {O : Nat → Prop} {gl : Nat} {ln pl : Int} (h : LTo w1 w' gl O E ln pl ms) (he : Ext No w w1) : LTo w w' gl O E ln pl ms := by
  obtain ⟨h1, O', E', h2, h3, h4⟩ := h
  have := he.size
  exact ⟨he.no.trans h1, O', E', h2, fun q hq => (h3 q hq).imp id fun h => by omega, fun q hq => (h4 q hq).imp id fun h => by omega⟩
theorem LTo.post {O : Nat → Prop} {gl : Nat} {ln pl : Int} (h : LTo w w1 gl O E ln pl ms) (he : Ext No w1 w') : LTo w w' gl O E ln pl ms := by
  obtain ⟨h1, O', E', h2, h3, h4⟩ := h
  exact ⟨h1.thenNo he, O', E', h2.ext0 he, h3, h4⟩
/-- Sweep. -/
theorem gSweep_spec (h : GObj w g gl gb Ol E k ms t rd seq) (now : Int) : Calls Try.prog 55 #[.pointer (some ⟨g, 0, none⟩), .int .i64 now] w fun e w' => ∃ r, e = .returned r ∧ ∃ zs : Zs, Own 33 5 MsgC w' (fun q => E q ∧ q < w.heap.size) r zs ∧ (∀ q, r.ownBlock = some q → w.heap.size ≤ q) ∧ zs.map (·.2) = (St.srt Msg.lane ms).filter (late now) ∧ LTo w w' gl Ol E (cl 1 3 k.lanes) (cl 1 8 k.depth) ((St.srt Msg.lane ms).filter fun m => !late now m) := by
  refine Calls.of_G2 Try.func55 rfl Try.ntmps55 rfl ?_
  refine J.at (C := Cls w No []) ?_ (Cls.start _ _)
  repeat (first | (apply JL.y; (first | (apply Y_move; rfl) | (apply Y_assign; rfl)); rfl) | refine J.seq ?_ | refine J.region ?_ | refine JL.nil ?_ | (apply JL.callq; rfl; rfl; (intro wc hwc; first | exact gLanes_spec (h.ext0 hwc.ext))))
  refine JL.call _ rfl rfl (fun w1 hw1 => laneSweep_spec (h.l.ext0 hw1.ext) now) fun w1 r w2 hw1 ⟨zs, hO, hn, hz, hT⟩ => ?_
  have hs := hw1.ext.size
  have hE : ∀ {q : Nat}, GB g gb Ol q ∨ E q → q < w.heap.size := fun hq => h.lt hq
  refine GL.of_JL (C := Cls w2 No []) (Cls.start _ _) ?_
  repeat (first | (apply JL.y; (apply Y_assign; rfl); rfl) | refine JL.nil ?_)
  exact J.ret1 Try.func55 Try.results55 (RV.tm rfl) fun w' hw' => ⟨_, rfl, zs, (hO.ext0 hw'.ext).mono (fun q _ hq => ⟨hq.1, hE (.inr hq.1)⟩) (fun q hq hv => by have := hn q hv; omega), fun q hq => by have := hn q hq; omega, hz, (hT.pre hw1.ext).post hw'.ext⟩
/-- Flush. -/
theorem gFlush_spec (h : GObj w g gl gb Ol E k ms t rd seq) : Calls Try.prog 66 #[.pointer (some ⟨g, 0, none⟩)] w fun e w' => ∃ r, e = .returned r ∧ ∃ zs : Zs, Own 33 5 MsgC w' (fun q => E q ∧ q < w.heap.size) r zs ∧ (∀ q, r.ownBlock = some q → w.heap.size ≤ q) ∧ zs.map (·.2) = St.srt Msg.lane ms ∧ LTo w w' gl Ol E (cl 1 3 k.lanes) (cl 1 8 k.depth) [] := by
  refine Calls.of_G1 Try.func66 rfl Try.ntmps66 rfl ?_
  refine J.at (C := Cls w No []) ?_ (Cls.start _ _)
  repeat (first | (apply JL.y; (first | (apply Y_move; rfl) | (apply Y_assign; rfl)); rfl) | refine J.seq ?_ | refine J.region ?_ | refine JL.nil ?_ | (apply JL.callq; rfl; rfl; (intro wc hwc; first | exact gLanes_spec (h.ext0 hwc.ext))))
  refine JL.call _ rfl rfl (fun w1 hw1 => laneFlush_spec (h.l.ext0 hw1.ext)) fun w1 r w2 hw1 ⟨zs, hO, hn, hz, hT⟩ => ?_
  have hs := hw1.ext.size
  have hE : ∀ {q : Nat}, GB g gb Ol q ∨ E q → q < w.heap.size := fun hq => h.lt hq
  refine GL.of_JL (C := Cls w2 No []) (Cls.start _ _) ?_
  repeat (first | (apply JL.y; (apply Y_assign; rfl); rfl) | refine JL.nil ?_)
  exact J.ret1 Try.func66 Try.results66 (RV.tm rfl) fun w' hw' => ⟨_, rfl, zs, (hO.ext0 hw'.ext).mono (fun q _ hq => ⟨hq.1, hE (.inr hq.1)⟩) (fun q hq hv => by have := hn q hv; omega), fun q hq => by have := hn q hq; omega, hz, (hT.pre hw1.ext).post hw'.ext⟩
/-- Take. -/
theorem gTake_spec (h : GObj w g gl gb Ol E k ms t rd seq) : Calls Try.prog 61 #[.pointer (some ⟨g, 0, none⟩)] w fun e w' => ∃ r, e = .returned r ∧ ∃ v, r = .tuple #[v, .bool (takeR (St.srt Msg.lane ms)).2.1] ∧ Foot (fun w => RMsg w v (takeR (St.srt Msg.lane ms)).1) w' (fun q => E q ∧ q < w.heap.size) ∧ LTo w w' gl Ol E (cl 1 3 k.lanes) (cl 1 8 k.depth) (takeR (St.srt Msg.lane ms)).2.2 := by
  refine Calls.of_G1 Try.func61 rfl Try.ntmps61 rfl ?_
  refine J.at (C := Cls w No []) ?_ (Cls.start _ _)
  repeat (first | (apply JL.y; (first | (apply Y_move; rfl) | (apply Y_assign; rfl)); rfl) | refine J.seq ?_ | refine J.region ?_ | refine JL.nil ?_ | (apply JL.callq; rfl; rfl; (intro wc hwc; first | exact gLanes_spec (h.ext0 hwc.ext))) | (apply JL.alloc; rfl; rfl; intro _))
  rename_i b2
  refine JL.call _ rfl rfl (fun w1 hw1 => laneTake_spec (h.l.ext0 hw1.ext)) fun w1 r w2 hw1 ⟨v, hr, hF, hT⟩ => ?_
  subst hr
  obtain ⟨ws, rfl, hFw, hl8, ho⟩ := RMsg.open_ hF
  have hs := hw1.ext.size
  have b2l : w.heap.size ≤ b2 := hw1.fresh fun _ h => h.elim
  have hlt : ∀ {q : Nat}, GB g gb Ol q ∨ E q → q < w.heap.size := fun hq => h.lt hq
  have hB2 := (hw1.has _ (.head _)).keep hT.1 fun h1 => by have := hlt (.inl (.inr (.inr h1))); simp only at this; omega
  have b2u := (hw1.has _ (.head _)).lt
  simp only at b2u
  refine GL.of_JL (C := Cls w2 (fun q => q = b2) [_]) (Cls.start1 hB2) ?_
  unfold msgC
  repeat (first | (apply JL.y; (first | (apply Y_assign; rfl) | (apply Y_extract; rfl; rfl)); rfl) | refine JL.nil ?_ | (apply JL.store; (apply St_W 0; rfl; rfl; rfl; exact inferInstance; rfl; rfl; (first | (focus (simp [Value.oneCell']; done)) | (simp [Value.oneCell']; assumption) | (simp [Value.oneCell']; exact ⟨by assumption, by assumption⟩)); (first | (focus (simp only [List.set_cons_zero]; done)) | (simp only [List.set_cons_zero]; rfl)))))
  refine J.ret2 Try.func61 Try.results61 (RV.W 0 rfl rfl rfl) (RV.tm rfl) fun w' hw' => ⟨_, rfl, _, rfl, ((RMsg.mk hFw hl8).ext hw'.ext fun q _ h1 h2 => by have := hlt (.inr h1.1); omega).mono fun q _ hq => ⟨hq.1, hlt (.inr hq.1)⟩, ?_⟩
  obtain ⟨h1, O', E', h2, h3, h4⟩ := hT
  refine ⟨(hw1.ext.no.trans h1).then hw'.ext fun q hq h => by omega, O', E', h2.ext hw'.ext fun q hq hb => ?_, fun q hq => (h3 q hq).imp id fun h => by omega, fun q hq => (h4 q hq).imp id fun h => by omega⟩
  subst hb
  rcases hq with hq | hq
  · rcases h3 _ hq with h5 | h5
    · have := hlt (.inl (.inr (.inr h5))); omega
    · omega
  · rcases h4 _ hq with h5 | h5
    · have := hlt (.inr h5); omega
    · omega
end
end Go.Proofs.Ytmkpbbdocndfbaa
/- The gate: New, Offer. -/
namespace Go.Proofs.Ytmkpbbdocndfbaa
open Go.RowKit Go.Proofs
attribute [local irreducible] Yl JL J G GL GA GQ DR DRA

/-- What may have turned but is known to be as it was, has not turned. -/
theorem Cls.but {w0 w : World} {D D' : Nat → Prop} {H : List Blk} (h : Cls w0 D H w) (h0 : ∀ k, D k → D' k ∨ ∃ x ∈ H, x.b = k ∧ BlkIn w0 x) : Ext D' w0 w :=
  ⟨h.ext.os, h.ext.tape, h.ext.output, h.ext.size, fun k hk hn => by
    by_cases hd : D k
    · rcases h0 k hd with h1 | ⟨x, hx, rfl, h1⟩
      · exact absurd h1 hn
      · exact (h.has x hx).trans h1.symm
    · exact h.ext.block k hk hd⟩
/-- gate.New. -/
theorem gNew_spec (k : Ch) (W : World) : Calls Try.prog 53 #[.agg (chC k).toArray] W fun e w' => ∃ r, e = .returned r ∧ ∃ g gl gb, r = .pointer (some ⟨g, 0, none⟩) ∧ Ext No W w' ∧ GObj w' g gl gb (fun q => q = gl) No k [] (cl 1 64 k.cap) 0 0 ∧ W.heap.size ≤ g ∧ W.heap.size ≤ gl ∧ W.heap.size ≤ gb := by
  refine Calls.of_G1 Try.func53 rfl Try.ntmps53 rfl ?_
  refine J.at (C := Cls W No []) ?_ (Cls.start _ _)
  unfold chC
  repeat (first | (apply JL.y; (apply Y_assign; rfl); rfl) | refine J.seq ?_ | refine J.region ?_ | refine JL.nil ?_ | (apply JL.box; rfl; rfl; rfl; intro _))
  refine J.draw (S := Cls _ _ _) [] #[false, false, false, false, false, false, false, false, false, false, false, false, false, false] rfl rfl (fun w hw => hw.drew) (fun w hS => ?_)
  (apply DR.take 0 #[true, false, false, false, false, false, false, false, false, false, false, false, false, false]; rfl; kernel_rfl; (first | (apply Y_load1 0; rfl; rfl; rfl; exact inferInstance) | (apply Y_load1 1; rfl; rfl; rfl; exact inferInstance) | (apply Y_load1 2; rfl; rfl; rfl; exact inferInstance) | (apply Y_load1 3; rfl; rfl; rfl; exact inferInstance) | (apply Y_loadW 0; rfl; rfl; exact inferInstance; rfl) | (apply Y_loadW 1; rfl; rfl; exact inferInstance; rfl) | (apply Y_loadW 2; rfl; rfl; exact inferInstance; rfl) | (apply Y_loadW 3; rfl; rfl; exact inferInstance; rfl)); rfl; exact hS)
  (apply DR.pure 1 #[true, true, false, false, false, false, false, false, false, false, false, false, false, false]; rfl; kernel_rfl; (apply Y_fieldAddr; rfl; rfl); rfl)
  (apply DR.take 2 #[true, true, true, false, false, false, false, false, false, false, false, false, false, false]; rfl; kernel_rfl; (first | (apply Y_load1 0; rfl; rfl; rfl; exact inferInstance) | (apply Y_load1 1; rfl; rfl; rfl; exact inferInstance) | (apply Y_load1 2; rfl; rfl; rfl; exact inferInstance) | (apply Y_load1 3; rfl; rfl; rfl; exact inferInstance) | (apply Y_loadW 0; rfl; rfl; exact inferInstance; rfl) | (apply Y_loadW 1; rfl; rfl; exact inferInstance; rfl) | (apply Y_loadW 2; rfl; rfl; exact inferInstance; rfl) | (apply Y_loadW 3; rfl; rfl; exact inferInstance; rfl)); rfl; exact hS)
  (apply DR.pure 3 #[true, true, true, true, false, false, false, false, false, false, false, false, false, false]; rfl; kernel_rfl; (apply Y_fieldAddr; rfl; rfl); rfl)
  (apply DR.take 4 #[true, true, true, true, true, false, false, false, false, false, false, false, false, false]; rfl; kernel_rfl; (first | (apply Y_load1 0; rfl; rfl; rfl; exact inferInstance) | (apply Y_load1 1; rfl; rfl; rfl; exact inferInstance) | (apply Y_load1 2; rfl; rfl; rfl; exact inferInstance) | (apply Y_load1 3; rfl; rfl; rfl; exact inferInstance) | (apply Y_loadW 0; rfl; rfl; exact inferInstance; rfl) | (apply Y_loadW 1; rfl; rfl; exact inferInstance; rfl) | (apply Y_loadW 2; rfl; rfl; exact inferInstance; rfl) | (apply Y_loadW 3; rfl; rfl; exact inferInstance; rfl)); rfl; exact hS)
  (apply DR.pure 6 #[true, true, true, true, true, false, true, false, false, false, false, false, false, false]; rfl; kernel_rfl; (apply Y_fieldAddr; rfl; rfl); rfl)
  (apply DR.take 7 #[true, true, true, true, true, false, true, true, false, false, false, false, false, false]; rfl; kernel_rfl; (first | (apply Y_load1 0; rfl; rfl; rfl; exact inferInstance) | (apply Y_load1 1; rfl; rfl; rfl; exact inferInstance) | (apply Y_load1 2; rfl; rfl; rfl; exact inferInstance) | (apply Y_load1 3; rfl; rfl; rfl; exact inferInstance) | (apply Y_loadW 0; rfl; rfl; exact inferInstance; rfl) | (apply Y_loadW 1; rfl; rfl; exact inferInstance; rfl) | (apply Y_loadW 2; rfl; rfl; exact inferInstance; rfl) | (apply Y_loadW 3; rfl; rfl; exact inferInstance; rfl)); rfl; exact hS)
  (apply DR.pure 8 #[true, true, true, true, true, false, true, true, true, false, false, false, false, false]; rfl; kernel_rfl; (apply Y_fieldAddr; rfl; rfl); rfl)
  (apply DR.take 9 #[true, true, true, true, true, false, true, true, true, true, false, false, false, false]; rfl; kernel_rfl; (first | (apply Y_load1 0; rfl; rfl; rfl; exact inferInstance) | (apply Y_load1 1; rfl; rfl; rfl; exact inferInstance) | (apply Y_load1 2; rfl; rfl; rfl; exact inferInstance) | (apply Y_load1 3; rfl; rfl; rfl; exact inferInstance) | (apply Y_loadW 0; rfl; rfl; exact inferInstance; rfl) | (apply Y_loadW 1; rfl; rfl; exact inferInstance; rfl) | (apply Y_loadW 2; rfl; rfl; exact inferInstance; rfl) | (apply Y_loadW 3; rfl; rfl; exact inferInstance; rfl)); rfl; exact hS)
  refine DR.call 5 #[true, true, true, true, true, true, true, true, true, true, false, false, false, false] (fun v w' => ∃ gl, v = .pointer (some ⟨gl, 0, none⟩) ∧ Ext No _ w' ∧ W.heap.size ≤ gl ∧ LObj w' gl (fun q => q = gl) No (cl 1 3 k.lanes) (cl 1 8 k.depth) []) rfl (by kernel_rfl) rfl rfl rfl (laneNew_spec.mono fun e w' ⟨r, h1, gl, h2, h3, h4, h5⟩ => ⟨r, h1, gl, h2, h3, Nat.le_trans hS.ext.size h4, h5⟩) (fun v w' ⟨gl, h⟩ => hS.ext0 h.2.1) (fun v w1 ⟨gl, hv, hE1, hgl, hL1⟩ hS => ?_)
  subst hv
  refine DR.call 10 #[true, true, true, true, true, true, true, true, true, true, true, false, false, false] (fun v w' => ∃ gb, v = .pointer (some ⟨gb, 0, none⟩) ∧ Ext No w1 w' ∧ w1.heap.size ≤ gb ∧ BlkIn w' ⟨gb, bC (cl 0 64 k.rate) (cl 1 64 k.cap) (cl 1 64 k.cap) 0, 189⟩) rfl (by kernel_rfl) rfl rfl rfl ((bNew_spec _ _ _).mono fun e w' ⟨r, h1, gb, h2, h3, h4, h5⟩ => ⟨r, h1, gb, h2, h3, h4, h5⟩) (fun v w' ⟨gb, h⟩ => hS.ext0 h.2.1) (fun v w2 ⟨gb, hv, hE2, hgb, hB2⟩ hS => ?_)
  subst hv
  (apply DR.pure 11 #[true, true, true, true, true, true, true, true, true, true, true, true, false, false]; rfl; kernel_rfl; (apply Y_build; rfl; exact inferInstance); rfl)
  refine DR.box 12 #[true, true, true, true, true, true, true, true, true, true, true, true, true, false] rfl (by kernel_rfl) rfl rfl rfl rfl (Cls.start No w2) (fun w' hw' => hS.ext0 hw') (fun g w3 hC3 hS => ?_)
  (apply DR.pure 13 #[true, true, true, true, true, true, true, true, true, true, true, true, true, true]; rfl; kernel_rfl; (apply Y_assign; rfl); rfl)
  refine DR.done (by kernel_rfl) ?_
  refine J.at (C := Cls w3 No []) ?_ (Cls.start _ _)
  skip
  refine J.ret1 Try.func53 Try.results53 (RV.tm rfl) fun w' hw' => ?_
  have hE23 := hC3.ext
  have hL2 := hL1.ext0 hE2
  have s1 := hE2.size
  have s0 := hS.ext.size
  have hgn : w2.heap.size ≤ g := hC3.fresh fun _ h => h.elim
  have hlu := hL1.lt gl (.inl rfl)
  have hbu := hB2.lt
  simp only at hbu
  refine ⟨_, rfl, g, gl, gb, rfl, hS.ext.trans hw'.ext, GObj.ext0 ⟨hC3.has _ (.head _), hL2.ext0 hE23, hB2.ext0 hE23, ⟨by unfold cl; omega, by unfold cl; omega, by unfold cl; omega, by omega⟩, by omega, ⟨by omega, fun h => h⟩, ⟨by omega, fun h => h⟩⟩ hw'.ext, by omega, hgl, by omega⟩

/-- What Offer tells, and what it leaves. -/
structure OffR where
  m : Msg
  e : Int
  ms : List Msg
  t : Int
  rd : Int
  seq : Int
  deriving DecidableEq
def offR (k : Ch) (ms : List Msg) (t rd seq mode lane : Int) (ws : List Int) (now round : Int) : OffR :=
  if ¬ judge k mode lane ws = 0 then ⟨zeroMsg, judge k mode lane ws, ms, t, rd, seq⟩
  else if room (cl 1 3 k.lanes) (cl 1 8 k.depth) ms lane = 0 then ⟨zeroMsg, 2, ms, t, rd, seq⟩
  else if bTok (cl 0 64 k.rate) (cl 1 64 k.cap) t rd round = 0 then ⟨zeroMsg, 2, ms, 0, bRnd rd round, seq⟩
  else ⟨⟨ws, lane, cut now, sadd now k.life, seq + 1⟩, 0, ms ++ [⟨ws, lane, cut now, sadd now k.life, seq + 1⟩], bTok (cl 0 64 k.rate) (cl 1 64 k.cap) t rd round - 1, bRnd rd round, seq + 1⟩
theorem room_lane {ln pl : Int} {ms : List Msg} {q : Int} (h : ¬ room ln pl ms q = 0) : 0 ≤ q ∧ q < ln := by
  unfold room at h
  by_cases h1 : 0 ≤ q ∧ q < ln
  · exact h1
  · rw [if_neg h1] at h; exact absurd rfl h
set_option maxHeartbeats 2000000 in
/-- Offer. -/
theorem gOffer_spec {W : World} {g gl gb : Nat} {Ol E ok : Nat → Prop} {k : Ch} {ms : List Msg} {t rd seq : Int} (h : GObj W g gl gb Ol E k ms t rd seq) (hsq : -1000000000000 ≤ seq ∧ seq ≤ 1000000000000) {v : Value} {ws : List Int} (hws : Foot (fun w => RInts w v ws) W ok) (hok : ∀ q, ok q → ¬ GB g gb Ol q) (hl8 : ws.length ≤ 8) (mode lane now round : Int) :
    Calls Try.prog 54 #[.pointer (some ⟨g, 0, none⟩), .int .i64 mode, .int .i64 lane, v, .int .i64 now, .int .i64 round] W fun e w' => ∃ r, e = .returned r ∧ ∃ vm, r = .tuple #[vm, .int .i64 (offR k ms t rd seq mode lane ws now round).e] ∧ Ext (GB g gb Ol) W w' ∧
      ∃ M Ol' E', Foot (fun w => RMsg w vm (offR k ms t rd seq mode lane ws now round).m) w' M ∧ (∀ q, M q → W.heap.size ≤ q ∧ ¬ Ol' q ∧ ¬ E' q) ∧ GObj w' g gl gb Ol' E' k (offR k ms t rd seq mode lane ws now round).ms (offR k ms t rd seq mode lane ws now round).t (offR k ms t rd seq mode lane ws now round).rd (offR k ms t rd seq mode lane ws now round).seq ∧
        (∀ q, Ol' q → Ol q ∨ W.heap.size ≤ q) ∧ (∀ q, E' q → E q ∨ W.heap.size ≤ q) := by
  have hb := h.b
  have hlt : ∀ {q : Nat}, GB g gb Ol q ∨ E q → q < W.heap.size := fun hq => h.lt hq
  obtain ⟨A, c, rfl, hc, hmx⟩ := hws.now.slice
  refine Calls.of_G6 Try.func54 rfl Try.ntmps54 rfl ?_
  refine J.at (C := Cls W (fun q => q = g) [_]) ?_ (Cls.start1 hb)
  unfold gC
  unfold gC at hb
  have st0 : ∀ {H' : List Blk} {w' : World}, Cls W (fun q => q = g) H' w' → (⟨g, [.int .i64 k.kind, .int .i64 k.from_, .int .i64 k.to, .int .i64 k.words, .int .i64 k.refresh, .int .i64 k.lanes, .int .i64 k.depth, .int .i64 k.hold, .int .i64 k.life, .int .i64 k.rate, .int .i64 k.cap, .pointer (some ⟨gl, 0, none⟩), .pointer (some ⟨gb, 0, none⟩), .int .i64 seq], 157⟩ : Blk) ∈ H' → Ext No W w' := fun h h1 => h.still fun k hk => ⟨_, h1, hk.symm, hb⟩
  repeat (first | (apply JL.y; (first | (apply Y_move; rfl) | (apply Y_assign; rfl) | (apply Y_fieldAddr; rfl; rfl) | (apply Y_nilCheck; rfl) | (apply Y_pnil_f; rfl)); rfl) | refine J.seq ?_ | refine J.region ?_ | refine JL.nil ?_ | (apply JL.alloc; rfl; rfl; intro _) | refine J.skip ?_ | refine J.cond_f rfl ?_)
  rename_i b12
  (apply JL.y; (apply Y_loadS 1; rfl; rfl; exact inferInstance; exact (rfl : _ = chC k); rfl); rfl)
  repeat (first | (apply JL.y; (first | (apply Y_move; rfl) | (apply Y_assign; rfl) | (apply Y_neq; rfl; rfl)); rfl) | refine J.seq ?_ | refine J.region ?_ | refine JL.nil ?_ | (apply JL.callq; rfl; rfl; (intro wc hwc; first | exact judge_spec k mode lane (hws.ext0 (st0 hwc (by simp))))))
  refine J.cond_d rfl (fun h1 => ?_) (fun h1 => ?_)
  · have ho : offR k ms t rd seq mode lane ws now round = ⟨zeroMsg, judge k mode lane ws, ms, t, rd, seq⟩ := by rw [offR, if_pos h1]
    rw [ho]
    repeat (first | (apply JL.y; (first | (apply Y_move; rfl) | (apply Y_assign; rfl) | (apply Y_build; rfl; exact inferInstance)); rfl) | refine J.seq ?_ | refine J.region ?_ | refine JL.nil ?_ | (apply JL.store; (apply St_W 0; rfl; rfl; rfl; exact inferInstance; rfl; rfl; (first | (focus (simp [Value.oneCell']; done)) | (simp [Value.oneCell']; assumption) | (simp [Value.oneCell']; exact ⟨by assumption, by assumption⟩)); (first | (focus (simp only [List.set_cons_zero]; done)) | (simp only [List.set_cons_zero]; rfl)))))
    refine J.ret2 Try.func54 Try.results54 (RV.W 0 rfl rfl rfl) (RV.tm rfl) fun w' hw' => ⟨_, rfl, _, rfl, (st0 hw' (by simp)).no, No, Ol, E, zero_msg w' No, fun _ h => h.elim, h.ext0 (st0 hw' (by simp)), fun _ h => .inl h, fun _ h => .inl h⟩
  repeat (first | (apply JL.y; (first | (apply Y_move; rfl) | (apply Y_fieldAddr; rfl; rfl) | (apply Y_load1 1; rfl; rfl; rfl; exact inferInstance) | (apply Y_nilCheck; rfl) | (apply Y_eql; rfl; rfl)); rfl) | refine J.seq ?_ | refine J.region ?_ | (apply JL.callq; rfl; rfl; (intro wc hwc; first | exact laneRoom_spec (h.l.ext0 (st0 hwc (by simp))) _)) | refine J.skip ?_)
  by_cases h2 : room (cl 1 3 k.lanes) (cl 1 8 k.depth) ms lane = 0
  · have ho : offR k ms t rd seq mode lane ws now round = ⟨zeroMsg, 2, ms, t, rd, seq⟩ := by rw [offR, if_neg h1, if_pos h2]
    rw [ho, decide_eq_true h2]
    repeat (first | (apply JL.y; (first | (apply Y_assign; rfl) | (apply Y_build; rfl; exact inferInstance) | (apply Y_pick_t; rfl; rfl)); rfl) | refine J.seq ?_ | refine J.region ?_ | refine JL.nil ?_ | (apply JL.store; (apply St_W 0; rfl; rfl; rfl; exact inferInstance; rfl; rfl; (first | (focus (simp [Value.oneCell']; done)) | (simp [Value.oneCell']; assumption) | (simp [Value.oneCell']; exact ⟨by assumption, by assumption⟩)); (first | (focus (simp only [List.set_cons_zero]; done)) | (simp only [List.set_cons_zero]; rfl)))) | (apply JL.guard_no; rfl; rfl; rfl; rfl; rfl) | refine J.cond_t rfl ?_)
    refine J.ret2 Try.func54 Try.results54 (RV.W 0 rfl rfl rfl) (RV.tm rfl) fun w' hw' => ⟨_, rfl, _, rfl, (st0 hw' (by simp)).no, No, Ol, E, zero_msg w' No, fun _ h => h.elim, h.ext0 (st0 hw' (by simp)), fun _ h => .inl h, fun _ h => .inl h⟩
  rw [decide_eq_false h2]
  repeat (first | (apply JL.y; (first | (apply Y_move; rfl) | (apply Y_fieldAddr; rfl; rfl) | (apply Y_load1 1; rfl; rfl; rfl; exact inferInstance) | (apply Y_nilCheck; rfl)); rfl) | (apply JL.guard_yes; rfl; rfl; rfl))
  refine JL.call (fun w1 v w2 => v = .bool (decide (¬ bTok (cl 0 64 k.rate) (cl 1 64 k.cap) t rd round = 0)) ∧ Ext (fun q => q = gb) w1 w2 ∧ BlkIn w2 ⟨gb, bC (cl 0 64 k.rate) (cl 1 64 k.cap) (if bTok (cl 0 64 k.rate) (cl 1 64 k.cap) t rd round = 0 then 0 else bTok (cl 0 64 k.rate) (cl 1 64 k.cap) t rd round - 1) (bRnd rd round), 189⟩) rfl rfl (fun w1 hw1 => (bTake_spec (h.kb.ext0 (st0 hw1 (by simp))) h.bi round)) fun w1 x w2 hw1 ⟨hx, hE, hB⟩ => ?_
  subst hx
  have hE01 := st0 hw1 (by simp)
  have b12l : W.heap.size ≤ b12 := hw1.fresh fun q h => ⟨_, .head _, h.symm⟩
  have b12u := (hw1.has _ (.head _)).lt
  simp only at b12u
  have hlb := hlt (.inl (.inr (.inl rfl)))
  have hlg := hlt (.inl (.inl rfl))
  have hB12 := (hw1.has _ (.head _)).keep hE (by simp only; omega)
  have hBg := (hw1.has _ (.tail _ (.head _))).keep hE h.ne
  have hbn : BIn (cl 0 64 k.rate) (cl 1 64 k.cap) (if bTok (cl 0 64 k.rate) (cl 1 64 k.cap) t rd round = 0 then 0 else bTok (cl 0 64 k.rate) (cl 1 64 k.cap) t rd round - 1) (bRnd rd round) := by
    by_cases h0 : bTok (cl 0 64 k.rate) (cl 1 64 k.cap) t rd round = 0
    · rw [if_pos h0]; have := h.bi.come round; rw [h0] at this; exact this
    · rw [if_neg h0]; exact (h.bi.come round).take h0
  have hG2 := (h.ext0 hE01).bucket hE hB hbn
  have s01 := hE01.size
  have s12 := hE.size
  have hX2 : Ext (GB g gb Ol) W w2 := hE01.no.then hE fun q _ h => .inr (.inl h)
  have hws2 := (hws.ext0 hE01).ext hE fun q _ h1 h2 => hok q h1 (.inr (.inl h2))
  refine GL.of_JL (C := Cls w2 (fun q => q = b12 ∨ q = g) [_, _]) (Cls.start2 hB12 hBg (by simp only; omega)) ?_
  repeat (first | (apply JL.y; (first | (apply Y_not_d; rfl) | (apply Y_pick_f; rfl; rfl)); rfl) | refine JL.nil ?_ | (apply JL.guard_yes; rfl; rfl; rfl))
  refine J.cond_d rfl (fun h3 => ?_) (fun h3 => ?_)
  · have h3' := Classical.not_not.1 h3
    have ho : offR k ms t rd seq mode lane ws now round = ⟨zeroMsg, 2, ms, 0, bRnd rd round, seq⟩ := by rw [offR, if_neg h1, if_neg h2, if_pos h3']
    rw [ho]
    rw [if_pos h3'] at hG2
    repeat (first | (apply JL.y; (first | (apply Y_assign; rfl) | (apply Y_build; rfl; exact inferInstance)); rfl) | refine J.seq ?_ | refine J.region ?_ | refine JL.nil ?_ | (apply JL.store; (apply St_W 0; rfl; rfl; rfl; exact inferInstance; rfl; rfl; (first | (focus (simp [Value.oneCell']; done)) | (simp [Value.oneCell']; assumption) | (simp [Value.oneCell']; exact ⟨by assumption, by assumption⟩)); (first | (focus (simp only [List.set_cons_zero]; done)) | (simp only [List.set_cons_zero]; rfl)))))
    refine J.ret2 Try.func54 Try.results54 (RV.W 0 rfl rfl rfl) (RV.tm rfl) fun w' hw' => ?_
    have hE' : Ext (fun q => q = b12) w2 w' := hw'.but fun q h => h.elim .inl fun h => .inr ⟨_, .tail _ (.head _), h.symm, hBg⟩
    exact ⟨_, rfl, _, rfl, hX2.then hE' fun q h1 h2 => by omega, No, Ol, E, zero_msg w' No, fun _ h => h.elim, hG2.ext hE' fun q h1 h2 => by have := hlt h1; omega, fun _ h => .inl h, fun _ h => .inl h⟩
  have ho : offR k ms t rd seq mode lane ws now round = ⟨⟨ws, lane, cut now, sadd now k.life, seq + 1⟩, 0, ms ++ [⟨ws, lane, cut now, sadd now k.life, seq + 1⟩], bTok (cl 0 64 k.rate) (cl 1 64 k.cap) t rd round - 1, bRnd rd round, seq + 1⟩ := by rw [offR, if_neg h1, if_neg h2, if_neg (fun h => h3 (fun h' => h' h))]
  rw [ho]
  rw [if_neg (fun h => h3 (fun h' => h' h))] at hG2
  obtain ⟨m, hm⟩ : ∃ m : Msg, m = ⟨ws, lane, cut now, sadd now k.life, seq + 1⟩ := ⟨_, rfl⟩
  rw [← hm]
  have hmw : m.words = ws := by rw [hm]
  have hml : m.lane = lane := by rw [hm]
  have hput : putR (cl 1 3 k.lanes) (cl 1 8 k.depth) ms m = (0, ms ++ [m]) := by
    have := room_lane h2
    rw [putR, hml, if_neg (by omega), if_neg h2]
  repeat (first | (apply JL.y; (first | (apply Y_move; rfl) | (apply Y_fieldAddr; rfl; rfl) | (apply Y_load1 1; rfl; rfl; rfl; exact inferInstance) | (apply Y_nilCheck; rfl) | (apply Y_add; rfl; rfl; omega)); rfl) | refine J.seq ?_ | refine J.region ?_ | refine JL.nil ?_ | (apply JL.store; (apply St_1 1; rfl; rfl; exact inferInstance; (first | rfl | assumption); rfl; rfl; (first | (focus (simp only [List.set_cons_zero, List.set_cons_succ]; done)) | (simp only [List.set_cons_zero, List.set_cons_succ]; rfl)))) | refine J.skip ?_)
  refine J.intro fun w3 hw3 => ?_
  have hB12' := hw3.has _ (.head _)
  have hBg' := hw3.has _ (.tail _ (.head _))
  have hE23 : Ext (fun q => q = g) w2 w3 := hw3.but fun q h => h.elim (fun h => .inr ⟨_, .head _, h.symm, hB12⟩) .inl
  have hG3 := hG2.num hE23 hBg'
  have hX3 : Ext (GB g gb Ol) W w3 := hX2.then hE23 fun q _ h => .inl h
  have hws3 := hws2.ext hE23 fun q _ h1 h2 => hok q h1 (.inl h2)
  have s23 := hE23.size
  have st3 : ∀ {H' : List Blk} {w' : World}, Cls w3 (fun q => q = b12 ∨ q = g) H' w' → (⟨b12, [.slice none 0 0, .int .i64 0, .int .i64 0, .int .i64 0, .int .i64 0], 33⟩ : Blk) ∈ H' → (⟨g, [.int .i64 k.kind, .int .i64 k.from_, .int .i64 k.to, .int .i64 k.words, .int .i64 k.refresh, .int .i64 k.lanes, .int .i64 k.depth, .int .i64 k.hold, .int .i64 k.life, .int .i64 k.rate, .int .i64 k.cap, .pointer (some ⟨gl, 0, none⟩), .pointer (some ⟨gb, 0, none⟩), .int .i64 (seq + 1)], 157⟩ : Blk) ∈ H' → Ext No w3 w' := fun h h1 h2 => h.still fun q hq => hq.elim (fun hq => ⟨_, h1, hq.symm, hB12'⟩) fun hq => ⟨_, h2, hq.symm, hBg'⟩
  refine J.at (C := Cls w3 (fun q => q = b12 ∨ q = g) [_, _]) ?_ (Cls.start2 hB12' hBg' (by simp only; omega))
  refine J.draw (S := Cls _ _ _) [18] #[false, false, false, false, false, false, false, false, false, false, false, false, false, false, false, false, false, false, false] rfl rfl (fun w hw => hw.drew) (fun w hS => ?_)
  (apply DR.pure 0 #[true, false, false, false, false, false, false, false, false, false, false, false, false, false, false, false, false, false, false]; rfl; kernel_rfl; (apply Y_move; rfl); rfl)
  (apply DR.pure 2 #[true, false, true, false, false, false, false, false, false, false, false, false, false, false, false, false, false, false, false]; rfl; kernel_rfl; (apply Y_move; rfl); rfl)
  (apply DR.pure 3 #[true, false, true, true, false, false, false, false, false, false, false, false, false, false, false, false, false, false, false]; rfl; kernel_rfl; (apply Y_move; rfl); rfl)
  (apply DR.pure 5 #[true, false, true, true, false, true, false, false, false, false, false, false, false, false, false, false, false, false, false]; rfl; kernel_rfl; (apply Y_move; rfl); rfl)
  (apply DR.pure 6 #[true, false, true, true, false, true, true, false, false, false, false, false, false, false, false, false, false, false, false]; rfl; kernel_rfl; (apply Y_move; rfl); rfl)
  (apply DR.pure 7 #[true, false, true, true, false, true, true, true, false, false, false, false, false, false, false, false, false, false, false]; rfl; kernel_rfl; (first | (apply Y_nilCheck; rfl) | (apply Y_nilCheckF; rfl)); rfl)
  (apply DR.pure 8 #[true, false, true, true, false, true, true, true, true, false, false, false, false, false, false, false, false, false, false]; rfl; kernel_rfl; (apply Y_fieldAddr; rfl; rfl); rfl)
  (apply DR.pure 9 #[true, false, true, true, false, true, true, true, true, true, false, false, false, false, false, false, false, false, false]; rfl; kernel_rfl; (apply Y_fieldAddr; rfl; rfl); rfl)
  (apply DR.take 10 #[true, false, true, true, false, true, true, true, true, true, true, false, false, false, false, false, false, false, false]; rfl; kernel_rfl; (first | (apply Y_load1 0; rfl; rfl; rfl; exact inferInstance) | (apply Y_load1 1; rfl; rfl; rfl; exact inferInstance) | (apply Y_load1 2; rfl; rfl; rfl; exact inferInstance) | (apply Y_load1 3; rfl; rfl; rfl; exact inferInstance) | (apply Y_loadW 0; rfl; rfl; exact inferInstance; rfl) | (apply Y_loadW 1; rfl; rfl; exact inferInstance; rfl) | (apply Y_loadW 2; rfl; rfl; exact inferInstance; rfl) | (apply Y_loadW 3; rfl; rfl; exact inferInstance; rfl)); rfl; exact hS)
  (apply DR.pure 12 #[true, false, true, true, false, true, true, true, true, true, true, false, true, false, false, false, false, false, false]; rfl; kernel_rfl; (apply Y_move; rfl); rfl)
  (apply DR.pure 13 #[true, false, true, true, false, true, true, true, true, true, true, false, true, true, false, false, false, false, false]; rfl; kernel_rfl; (first | (apply Y_nilCheck; rfl) | (apply Y_nilCheckF; rfl)); rfl)
  (apply DR.pure 14 #[true, false, true, true, false, true, true, true, true, true, true, false, true, true, true, false, false, false, false]; rfl; kernel_rfl; (apply Y_fieldAddr; rfl; rfl); rfl)
  (apply DR.take 15 #[true, false, true, true, false, true, true, true, true, true, true, false, true, true, true, true, false, false, false]; rfl; kernel_rfl; (first | (apply Y_load1 0; rfl; rfl; rfl; exact inferInstance) | (apply Y_load1 1; rfl; rfl; rfl; exact inferInstance) | (apply Y_load1 2; rfl; rfl; rfl; exact inferInstance) | (apply Y_load1 3; rfl; rfl; rfl; exact inferInstance) | (apply Y_loadW 0; rfl; rfl; exact inferInstance; rfl) | (apply Y_loadW 1; rfl; rfl; exact inferInstance; rfl) | (apply Y_loadW 2; rfl; rfl; exact inferInstance; rfl) | (apply Y_loadW 3; rfl; rfl; exact inferInstance; rfl)); rfl; exact hS)
  refine DRA.go (l' := #[true, false, true, true, false, true, true, true, true, true, true, false, true, true, true, true, false, true, false]) (w0 := w3) (d := 15) (cs := [.slice none 0 0, .int .i64 0, .int .i64 0, .int .i64 0, .int .i64 0]) (t := 33) (U := No) ?_
  refine DRA.call 17 1 #[true, true, true, true, false, true, true, true, true, true, true, false, true, true, true, true, false, false, false] #[true, true, true, true, false, true, true, true, true, true, true, false, true, true, true, true, false, true, false] (fun v' N w' => Row w' 3 1 v' (ints ws) ∧ (∀ q, v'.ownBlock = some q → N q) ∧ ∀ q, N q → w3.heap.size ≤ q) No rfl rfl (by kernel_rfl) (by kernel_rfl) rfl rfl rfl rfl rfl rfl rfl inferInstance rfl hS (fun _ _ h he => h.ext0 he) (fun _ h => h.ext.size) (fun _ h => h.elim) (fun _ h => h.elim) (fun w4 hE4 hS4 => ?_) (fun vw N w5 ⟨hRw, hNv, hNl⟩ hS hN hU => ?_)
  · exact (cloneInts_spec (hws3.ext0 (st3 hS4 (by simp) (by simp))) (by omega)).mono fun e w' ⟨r, h1, h2, _, _, h3, h4⟩ => ⟨r, fun q => w4.heap.size ≤ q ∧ q < w'.heap.size, h1, ⟨h3, fun q hq => ⟨h4 q hq, h3.lt hq⟩, fun q hq => Nat.le_trans hS4.ext.size hq.1⟩, fun q h => h, h2, hS4.ext0 h2⟩
  obtain ⟨Aw, cw, rfl, _⟩ := hRw.slice
  rw [ints_len] at hRw hNv ⊢
  refine DRA.callq 17 4 #[true, true, true, true, true, true, true, true, true, true, true, false, true, true, true, true, false, false, false] #[true, true, true, true, true, true, true, true, true, true, true, false, true, true, true, true, false, true, false] rfl rfl (by kernel_rfl) (by kernel_rfl) rfl rfl rfl rfl rfl rfl rfl inferInstance rfl hS (fun _ _ h he => h.ext0 he) (fun _ h => h.ext.size) hU (fun w6 hE6 hS6 => cut_spec _ _) (fun w6 hE6 hS hU => ?_)
  refine DRA.callq 17 11 #[true, true, true, true, true, true, true, true, true, true, true, true, true, true, true, true, false, false, false] #[true, true, true, true, true, true, true, true, true, true, true, true, true, true, true, true, false, true, false] rfl rfl (by kernel_rfl) (by kernel_rfl) rfl rfl rfl rfl rfl rfl rfl inferInstance rfl hS (fun _ _ h he => h.ext0 he) (fun _ h => h.ext.size) hU (fun w7 hE7 hS7 => add_spec _ _ _) (fun w7 hE7 hS hU => ?_)
  (apply DRA.pure 16 #[true, true, true, true, true, true, true, true, true, true, true, true, true, true, true, true, true, false, false] #[true, true, true, true, true, true, true, true, true, true, true, true, true, true, true, true, true, true, false]; rfl; kernel_rfl; kernel_rfl; (apply Y_build; rfl; exact inferInstance); rfl; rfl; rfl)
  refine DRA.end_ 17 rfl (by kernel_rfl) rfl rfl inferInstance rfl hS (fun _ _ h he => h.ext0 he) (fun _ h => h.ext.size) hU (fun b15 w8 hE8 hS b15l hb15 hB15 => ?_)
  have hE58 := (hE6.trans hE7).trans hE8
  have hRw8 := hRw.ext0 hE58
  have hE38 := st3 hS (by simp) (by simp)
  (apply DR.store 18 #[true, true, true, true, true, true, true, true, true, true, true, true, true, true, true, true, true, true, true]; rfl; kernel_rfl; rfl; exact (Cls.start3 hB15 (hS.has _ (.head _)) (hS.has _ (.tail _ (.head _))) (by simp only; omega) (by simp only; omega) (by simp only; omega)); (apply St_W 0; rfl; rfl; rfl; exact inferInstance; rfl; rfl; simp [Value.oneCell']; rfl); intro w9 hC9)
  refine DR.done (by kernel_rfl) ?_
  have hb15n : ∀ q, (Value.slice Aw ws.length cw).ownBlock = some q → q ≠ b15 ∧ w3.heap.size ≤ q ∧ q < w8.heap.size := fun q hq => ⟨fun h => hb15 (.inr (h ▸ hNv q hq)), hNl q (hNv q hq), hRw8.lt hq⟩
  have s38 := hE38.size
  have hD : ∀ q, (q = b15 ∨ q = b12 ∨ q = g) → ¬ (GB g gb Ol q ∧ q ≠ g) ∧ ¬ E q := fun q hq => by
    rcases hq with rfl | rfl | rfl
    · exact ⟨fun h => by have := hlt (.inl h.1); omega, fun h => by have := hlt (.inr h); omega⟩
    · exact ⟨fun h => by have := hlt (.inl h.1); omega, fun h => by have := hlt (.inr h); omega⟩
    · exact ⟨fun h => h.2 rfl, h.og.2⟩
  have hOD : ∀ q, Ol q ∨ E q → ¬ (q = b15 ∨ q = b12 ∨ q = g) := fun q hq h' => hq.elim (fun ho => (hD q h').1 ⟨.inr (.inr ho), fun h'' => h.og.1 (h'' ▸ ho)⟩) fun he => (hD q h').2 he
  have hG8 := hG3.ext0 hE38
  have hw15 : ([.slice Aw ws.length cw, .int .i64 lane, .int .i64 (cut now), .int .i64 (sadd now k.life), .int .i64 (seq + 1)] : List Value) = msgC (.slice Aw ws.length cw) m := by rw [hm]; rfl
  refine J.at (C := Cls w8 (fun q => q = b15 ∨ q = b12 ∨ q = g) [_, _, _]) ?_ hC9
  repeat (first | refine J.seq ?_)
  refine J.drawC (S := Cls w8 (fun q => (q = b15 ∨ q = b12 ∨ q = g) ∨ Ol q) [_, _, _]) [] #[false, false, false, false, false, false] rfl rfl (fun w hw => ⟨hw.drew.ext.mono fun _ _ h => .inl h, hw.drew.has, hw.drew.apart, fun x hx => (hw.drew.mine x hx).imp .inl id⟩) (fun w hC0 hS => ?_)
  have hC := hC0.drew
  generalize w.drew = wd at hS hC ⊢
  (apply DR.pure 0 #[true, false, false, false, false, false]; rfl; kernel_rfl; (apply Y_move; rfl); rfl)
  (apply DR.pure 1 #[true, true, false, false, false, false]; rfl; kernel_rfl; (first | (apply Y_nilCheck; rfl) | (apply Y_nilCheckF; rfl)); rfl)
  (apply DR.pure 2 #[true, true, true, false, false, false]; rfl; kernel_rfl; (apply Y_fieldAddr; rfl; rfl); rfl)
  (apply DR.take 3 #[true, true, true, true, false, false]; rfl; kernel_rfl; (first | (apply Y_load1 0; rfl; rfl; rfl; exact inferInstance) | (apply Y_load1 1; rfl; rfl; rfl; exact inferInstance) | (apply Y_load1 2; rfl; rfl; rfl; exact inferInstance) | (apply Y_load1 3; rfl; rfl; rfl; exact inferInstance) | (apply Y_loadW 0; rfl; rfl; exact inferInstance; rfl) | (apply Y_loadW 1; rfl; rfl; exact inferInstance; rfl) | (apply Y_loadW 2; rfl; rfl; exact inferInstance; rfl) | (apply Y_loadW 3; rfl; rfl; exact inferInstance; rfl)); rfl; exact hS)
  (apply DR.take 4 #[true, true, true, true, true, false]; rfl; kernel_rfl; (first | (apply Y_load1 0; rfl; rfl; rfl; exact inferInstance) | (apply Y_load1 1; rfl; rfl; rfl; exact inferInstance) | (apply Y_load1 2; rfl; rfl; rfl; exact inferInstance) | (apply Y_load1 3; rfl; rfl; rfl; exact inferInstance) | (apply Y_loadW 0; rfl; rfl; exact inferInstance; rfl) | (apply Y_loadW 1; rfl; rfl; exact inferInstance; rfl) | (apply Y_loadW 2; rfl; rfl; exact inferInstance; rfl) | (apply Y_loadW 3; rfl; rfl; exact inferInstance; rfl)); rfl; exact hS)
  refine DR.call 5 #[true, true, true, true, true, true] (fun v w' => v = .int .i64 0 ∧ LTo wd w' gl Ol E (cl 1 3 k.lanes) (cl 1 8 k.depth) (ms ++ [m])) rfl (by kernel_rfl) rfl rfl rfl ?_ (fun v w' hv => hS.extA hv.2.1 (fun q _ h => .inr h) ?_) (fun v w10 ⟨_, hLT⟩ hS => ?_)
  · rw [hw15]
    refine (lanePut_spec (hG8.l.ext hC.ext hOD) (RMsg.mk (m := m) (ok := fun q => (Value.slice Aw ws.length cw).ownBlock = some q) ?_ (by rw [hmw]; exact hl8))).mono fun e w' ⟨r, h1, h2, h3⟩ => ⟨r, h1, by rw [h2, hput], by rw [hput] at h3; exact h3⟩
    rw [hmw]
    exact (hRw8.ints_foot (xs := ws)).ext hC.ext fun q _ h1 h2 => by have := hb15n q h1; omega
  · simp only [List.mem_cons, List.not_mem_nil, or_false]
    rintro x (rfl | rfl | rfl) ho
    · exact hOD _ (.inl ho) (.inl rfl)
    · exact hOD _ (.inl ho) (.inr (.inl rfl))
    · exact hOD _ (.inl ho) (.inr (.inr rfl))
  refine DR.done (by kernel_rfl) ?_
  have hEd : Ext (fun q => q = b15 ∨ q = b12) w8 wd := hC.but fun q h => by
    rcases h with h | h | h
    · exact .inl (.inl h)
    · exact .inl (.inr h)
    · exact .inr ⟨_, .tail _ (.tail _ (.head _)), h.symm, hG8.b⟩
  have hDN : ∀ q, (q = b15 ∨ q = b12) → W.heap.size ≤ q ∧ q < w8.heap.size := fun q h => by
    have h15 := hB15.lt
    simp only at h15
    omega
  have hGd := hG8.ext hEd fun q hq h' => by have := hlt hq; have := hDN q h'; omega
  have sd := hEd.size
  have sl := hLT.1.size
  have hOl : ∀ q, Ol q → q < W.heap.size := fun q hq => hlt (.inl (.inr (.inr hq)))
  obtain ⟨hE10, Ol', E', hG10, hO', hE'⟩ := hGd.lane hLT
  have hF8 : Foot (fun w => RInts w (.slice Aw ws.length cw) m.words) w8 (fun q => (Value.slice Aw ws.length cw).ownBlock = some q) := by rw [hmw]; exact hRw8.ints_foot (xs := ws)
  have hF10 := (hF8.ext hEd fun q _ h1 h2 => by have := hb15n q h1; omega).ext hLT.1 fun q _ h1 h2 => by have := hb15n q h1; have := hOl q h2; omega
  have hX10 : Ext (GB g gb Ol) W w10 := (((hX3.then hE38 fun q _ h => h.elim).then hEd fun q h1 h2 => by have := hDN q h2; omega)).then hE10 fun q _ h => h
  refine J.at (C := Cls w10 (fun q => q = b15 ∨ q = b12) [_, _]) ?_ (Cls.start2 (hS.has _ (.head _)) (hS.has _ (.tail _ (.head _))) (by simp only; omega))
  repeat (first | (apply JL.y; (first | (apply Y_assign; rfl) | (apply Y_loadW 0; rfl; rfl; exact inferInstance; rfl)); rfl) | refine J.seq ?_ | refine J.region ?_ | refine JL.nil ?_ | (apply JL.store; (apply St_W 1; rfl; rfl; rfl; exact inferInstance; rfl; rfl; (first | (focus (simp [Value.oneCell']; done)) | (simp [Value.oneCell']; assumption) | (simp [Value.oneCell']; exact ⟨by assumption, by assumption⟩)); (first | (focus (simp only [List.set_cons_zero, List.set_cons_succ]; done)) | (simp only [List.set_cons_zero, List.set_cons_succ]; rfl)))))
  refine J.ret2 Try.func54 Try.results54 (RV.W 1 rfl rfl rfl) (RV.tm rfl) fun w' hw' => ?_
  have hne : ∀ q, GB g gb Ol' q ∨ E' q → ¬ (q = b15 ∨ q = b12) := fun q hq h' => by
    have h2 := hDN q h'
    rcases hq with (h3 | h3 | h3) | h3
    · omega
    · omega
    · rcases hO' q h3 with h4 | h4
      · have := hOl q h4; omega
      · omega
    · rcases hE' q h3 with h4 | h4
      · have := hlt (.inr h4); omega
      · omega
  refine ⟨_, rfl, .agg (msgC (.slice Aw ws.length cw) m).toArray, by rw [← hw15], hX10.then hw'.ext fun q h1 h2 => by have := hDN q h2; omega, _, Ol', E', (RMsg.mk hF10 (by rw [hmw]; exact hl8)).ext hw'.ext fun q _ h1 h2 => by have := hb15n q h1; omega, fun q hq => ?_, hG10.ext hw'.ext hne, fun q hq => (hO' q hq).imp id fun h => by omega, fun q hq => (hE' q hq).imp id fun h => by omega⟩
  have h2 := hb15n q hq
  refine ⟨by omega, fun h3 => ?_, fun h3 => ?_⟩
  · rcases hO' q h3 with h4 | h4
    · have := hOl q h4; omega
    · omega
  · rcases hE' q h3 with h4 | h4
    · have := hlt (.inr h4); omega
    · omega
end Go.Proofs.Ytmkpbbdocndfbaa
/- law 12: the document's example. -/
namespace Go.Proofs.Ytmkpbbdocndfbaa
open Go.RowKit Go.Proofs
attribute [local irreducible] Yl JL J G GL GA GQ DR DRA

def plainC : Ch := ⟨1, 0, 1, 1, 0, 1, 1, 1, 5, 0, 9⟩
theorem plain_spec (w : World) : Calls Try.prog 119 #[] w fun e w' => e = .returned (.agg (chC plainC).toArray) ∧ Ext No w w' := by
  refine Calls.of_G0 Try.func119 rfl Try.ntmps119 ?_
  refine J.at (C := Cls w No []) ?_ (Cls.start _ _)
  repeat (first | (apply JL.y; (apply Y_build; rfl; exact inferInstance); rfl) | refine J.seq ?_ | refine J.region ?_ | refine JL.nil ?_ | (apply JL.alloc; rfl; rfl; intro _) | (apply JL.store; (apply St_W 0; rfl; rfl; rfl; exact inferInstance; rfl; rfl; (first | (focus (simp [Value.oneCell']; done)) | (simp [Value.oneCell']; assumption) | (simp [Value.oneCell']; exact ⟨by assumption, by assumption⟩)); (first | (focus (simp only [List.set_cons_zero]; done)) | (simp only [List.set_cons_zero]; rfl)))))
  refine J.ret1 Try.func119 Try.results119 (RV.W 0 rfl rfl rfl) fun w' hw' => ⟨rfl, hw'.ext⟩
theorem RInts.of_blk {w : World} {b : Nat} {t : TypeId} {x : Int} (h : BlkIn w ⟨b, [.int .i64 x], t⟩) : Foot (fun w => RInts w (.slice (some ⟨b, 0, none⟩) 1 1) [x]) w (fun q => q = b) :=
  h.foot.imp fun w hw => (Row.of_blk (el := t) (sz := 1) (chs := ints [x]) hw rfl (ints_size _) rfl (by simp [maxLen, ints])).rrow
set_option maxHeartbeats 1000000 in
theorem lives12_spec (W : World) : Calls Try.prog 48 #[] W fun e w' => e = .returned (.bool true) ∧ Ext No W w' := by
  refine Calls.of_G0 Try.func48 rfl Try.ntmps48 ?_
  refine J.at (C := Cls W No []) ?_ (Cls.start _ _)
  repeat (first | (apply JL.y; (apply Y_assign; rfl); rfl) | refine J.seq ?_ | refine J.region ?_ | refine JL.nil ?_ | (apply JL.callq; rfl; rfl; (intro wc hwc; first | exact plain_spec _)))
  refine JL.call _ rfl rfl (fun w1 hw1 => gNew_spec plainC w1) fun w1 r w2 hw1 ⟨g, gl, gb, hr, hE2, hG2, hgl, hll, hbl⟩ => ?_
  subst hr
  have hX2 := hw1.ext.trans hE2
  have s1 := hw1.ext.size
  have s2 := hE2.size
  have hlt2 : ∀ {q : Nat}, GB g gb (fun q => q = gl) q ∨ No q → q < w2.heap.size := fun hq => hG2.lt hq
  refine GL.of_JL (C := Cls w2 No []) (Cls.start _ _) ?_
  repeat (first | (apply JL.y; (first | (apply Y_move; rfl) | (apply Y_assign; rfl)); rfl) | refine J.seq ?_ | refine J.region ?_ | refine JL.nil ?_ | (apply JL.bslice1; rfl; rfl; rfl; rfl; rfl; rfl; intro _))
  rename_i bw
  refine JL.call _ rfl rfl (fun w3 hw3 => gOffer_spec (hG2.ext0 hw3.ext) (by omega) (RInts.of_blk (hw3.has _ (.head _))) (fun q h1 h2 => by
    have := hlt2 (.inl h2)
    have : w2.heap.size ≤ bw := hw3.fresh fun _ h => h.elim
    omega) (by simp) 0 0 3 0) fun w3 r w4 hw3 ⟨vm, hr, hE4, M4, O4, E4, hF4, hM4, hG4, hO4, hE4'⟩ => ?_
  rw [show cl 1 64 plainC.cap = 9 by decide] at hr hF4 hG4
  rw [show offR plainC [] 9 0 0 0 0 [7] 3 0 = ⟨⟨[7], 0, 3, 8, 1⟩, 0, [⟨[7], 0, 3, 8, 1⟩], 8, 0, 1⟩ by decide] at hr hF4 hG4
  subst hr
  obtain ⟨ws4, rfl, hFw4, _, how4⟩ := RMsg.open_ hF4
  have s23 := hw3.ext.size
  have s34 := hE4.size
  have hn4 : ∀ q, GB g gb O4 q ∨ E4 q → W.heap.size ≤ q := fun q hq => by
    rcases hq with (rfl | rfl | h) | h
    · omega
    · omega
    · rcases hO4 q h with rfl | h <;> omega
    · rcases hE4' q h with h | h
      · exact h.elim
      · omega
  have hX4 : Ext No W w4 := (hX2.trans hw3.ext).then hE4 fun q h1 h2 => by
    rcases h2 with rfl | rfl | rfl <;> omega
  have hlt4 : ∀ {q : Nat}, GB g gb O4 q ∨ E4 q → q < w4.heap.size := fun hq => hG4.lt hq
  refine GL.of_JL (C := Cls w4 No []) (Cls.start _ _) ?_
  unfold msgC
  repeat (first | (apply JL.y; (first | (apply Y_move; rfl) | (apply Y_assign; rfl) | (apply Y_extract; rfl; rfl)); rfl) | refine J.seq ?_ | refine J.region ?_ | refine JL.nil ?_ | (apply JL.alloc; rfl; rfl; intro _) | (apply JL.bslice1; rfl; rfl; rfl; rfl; rfl; rfl; intro _) | (apply JL.store; (apply St_W 0; rfl; rfl; rfl; exact inferInstance; rfl; rfl; (first | (focus (simp [Value.oneCell']; done)) | (simp [Value.oneCell']; assumption) | (simp [Value.oneCell']; exact ⟨by assumption, by assumption⟩)); (first | (focus (simp only [List.set_cons_zero]; done)) | (simp only [List.set_cons_zero]; rfl)))))
  rename_i b2 bw2
  refine JL.call _ rfl rfl (fun w5 hw5 => gOffer_spec (hG4.ext0 hw5.ext) (by simp only; omega) (RInts.of_blk (hw5.has _ (.head _))) (fun q h1 h2 => by
    have := hlt4 (.inl h2)
    have : w4.heap.size ≤ bw2 := (hw5.mine _ (.head _)).resolve_left id
    omega) (by simp) 0 0 3 0) fun w5 r w6 hw5 ⟨vm, hr, hE6, M6, O6, E6, hF6, hM6, hG6, hO6, hE6'⟩ => ?_
  simp only at hr hF6 hG6
  rw [show offR plainC [⟨[7], 0, 3, 8, 1⟩] 8 0 1 0 0 [8] 3 0 = ⟨zeroMsg, 2, [⟨[7], 0, 3, 8, 1⟩], 8, 0, 1⟩ by decide] at hr hF6 hG6
  subst hr
  obtain ⟨ws6, rfl, hFw6, _, how6⟩ := RMsg.open_ hF6
  have s45 := hw5.ext.size
  have s56 := hE6.size
  have b2l : w4.heap.size ≤ b2 := (hw5.mine _ (.tail _ (.head _))).resolve_left id
  have hB2 := (hw5.has _ (.tail _ (.head _))).keep hE6 fun h => by have := hlt4 (.inl h); simp only at this; omega
  have hX6 : Ext No W w6 := (hX4.trans hw5.ext).then hE6 fun q h1 h2 => by have := hn4 q (.inl h2); omega
  have hGn : ∀ q, GB g gb O6 q ∨ E6 q → W.heap.size ≤ q ∧ q ≠ b2 := fun q hq => by
    rcases hq with (rfl | rfl | h) | h
    · have := hlt4 (.inl (.inl rfl)); omega
    · have := hlt4 (.inl (.inr (.inl rfl))); omega
    · rcases hO6 q h with h | h
      · have := hlt4 (.inl (.inr (.inr h))); have := hn4 q (.inl (.inr (.inr h))); omega
      · have := (hw5.has _ (.tail _ (.head _))).lt; simp only at this; omega
    · rcases hE6' q h with h | h
      · have := hlt4 (.inr h); have := hn4 q (.inr h); omega
      · have := (hw5.has _ (.tail _ (.head _))).lt; simp only at this; omega
  refine GL.of_JL (C := Cls w6 (fun q => q = b2) [_]) (Cls.start1 hB2) ?_
  unfold msgC
  have hst : ∀ {H' : List Blk} {w' : World}, Cls w6 (fun q => q = b2) H' w' → (⟨b2, [ws4, .int .i64 0, .int .i64 3, .int .i64 8, .int .i64 1], 33⟩ : Blk) ∈ H' → Ext No w6 w' := fun h h1 => h.still fun q hq => ⟨_, h1, hq.symm, hB2⟩
  repeat (first | (apply JL.y; (first | (apply Y_move; rfl) | (apply Y_assign; rfl) | (apply Y_fieldAddr; rfl; rfl) | (apply Y_load1 1; rfl; rfl; rfl; exact inferInstance) | (apply Y_extract; rfl; rfl) | (apply Y_eql; rfl; rfl) | (apply Y_pick_t; rfl; rfl)); rfl) | refine J.seq ?_ | refine J.region ?_ | refine JL.nil ?_ | (apply JL.callq; rfl; rfl; (intro wc hwc; first | exact gLen_spec (hG6.ext0 (hst hwc (by simp))))) | (apply JL.alloc; rfl; rfl; intro _) | (apply JL.store; (apply St_W 0; rfl; rfl; rfl; exact inferInstance; rfl; rfl; (first | (focus (simp [Value.oneCell']; done)) | (simp [Value.oneCell']; assumption) | (simp [Value.oneCell']; exact ⟨by assumption, by assumption⟩)); (first | (focus (simp only [List.set_cons_zero]; done)) | (simp only [List.set_cons_zero]; rfl)))) | (apply JL.guard_yes; rfl; rfl; rfl))
  refine JL.call _ rfl rfl (fun w7 hw7 => gTokens_spec (hG6.ext0 (hst hw7 (by simp))) 0) fun w7 r w8 hw7 ⟨hr, hE8, _⟩ => ?_
  simp only at hr
  rw [show bTok (cl 0 64 plainC.rate) (cl 1 64 plainC.cap) 8 0 0 = 8 by decide] at hr
  subst hr
  have hX8 : Ext No W w8 := (hX6.trans (hst hw7 (by simp))).then hE8 fun q h1 h2 => by have := hGn q (.inl (.inr (.inl h2))); omega
  refine GL.of_JL (C := Cls w8 No []) (Cls.start _ _) ?_
  repeat (first | (apply JL.y; (first | (apply Y_assign; rfl) | (apply Y_eql; rfl; rfl) | (apply Y_pick_t; rfl; rfl)); rfl) | refine JL.nil ?_ | (apply JL.guard_yes; rfl; rfl; rfl))
  exact J.ret1 Try.func48 Try.results48 (RV.tm rfl) fun w' hw' => ⟨rfl, hX8.trans hw'.ext⟩
end Go.Proofs.Ytmkpbbdocndfbaa
/- law 12: what comes in; the steps' words; GateJudges. -/
namespace Go.Proofs.Ytmkpbbdocndfbaa
open Go.RowKit Go.Proofs
attribute [local irreducible] Yl JL J G GL GA GQ DR DRA

theorem len11 {l : List Value} (h : l.length = 11) : ∃ a0 a1 a2 a3 a4 a5 a6 a7 a8 a9 a10, l = [a0, a1, a2, a3, a4, a5, a6, a7, a8, a9, a10] := by
  match l, h with
  | [a0, a1, a2, a3, a4, a5, a6, a7, a8, a9, a10], _ => exact ⟨a0, a1, a2, a3, a4, a5, a6, a7, a8, a9, a10, rfl⟩
theorem len6 {l : List Value} (h : l.length = 6) : ∃ a0 a1 a2 a3 a4 a5, l = [a0, a1, a2, a3, a4, a5] := by
  match l, h with
  | [a0, a1, a2, a3, a4, a5], _ => exact ⟨a0, a1, a2, a3, a4, a5, rfl⟩
/-- A step of law 12. -/
structure St12 where
  kind : Int
  mode : Int
  lane : Int
  n : Int
  round : Int
  ws : List Int
def st12C (v : Value) (s : St12) : List Value := [.int .i64 s.kind, .int .i64 s.mode, .int .i64 s.lane, .int .i64 s.n, .int .i64 s.round, v]
def St12C (w : World) (cs : List Value) (s : St12) : Prop := ∃ v, cs = st12C v s ∧ RInts w v s.ws
instance : Inhabited St12 := ⟨⟨0, 0, 0, 0, 0, []⟩⟩
section
variable {H : Type} {enc : TypeId × Value → H} {w : World} {base : Nat} {spare : Nat → Bool} {held : Bool} {fuel : Nat} {cs : List Value} {x : DataW H × List MemPlace}
theorem rd_ch (h : DataW.trod enc Try.prog w base spare held fuel 61 cs = some x) : ∃ k, cs = chC k := by
  obtain ⟨c0, c1, c2, c3, c4, c5, c6, c7, c8, c9, c10, rfl⟩ := len11 ((rd_len Try.underlying61 h).trans (by kernel_rfl))
  have rd : ∀ (i : Nat) (c : Value), ((Try.prog.underlying 61).bind fun d => match d with | .struct fs => (fs[i]?).map (fun f => (f.type, f.offset)) | _ => none) = some (3, i) → (([c0, c1, c2, c3, c4, c5, c6, c7, c8, c9, c10].drop i).take 1) = [c] → ∃ n, c = .int .i64 n := fun i c hi hc => by
    rw [Try.underlying61] at hi
    obtain ⟨_, _, h0⟩ := rd_field Try.underlying61 h i 3 i 1 hi (by kernel_rfl)
    rw [hc] at h0
    obtain ⟨n, e, _⟩ := rd_int Try.underlying3 h0
    cases e
    exact ⟨n, rfl⟩
  obtain ⟨n0, rfl⟩ := rd 0 c0 (by rw [Try.underlying61]; rfl) rfl
  obtain ⟨n1, rfl⟩ := rd 1 c1 (by rw [Try.underlying61]; rfl) rfl
  obtain ⟨n2, rfl⟩ := rd 2 c2 (by rw [Try.underlying61]; rfl) rfl
  obtain ⟨n3, rfl⟩ := rd 3 c3 (by rw [Try.underlying61]; rfl) rfl
  obtain ⟨n4, rfl⟩ := rd 4 c4 (by rw [Try.underlying61]; rfl) rfl
  obtain ⟨n5, rfl⟩ := rd 5 c5 (by rw [Try.underlying61]; rfl) rfl
  obtain ⟨n6, rfl⟩ := rd 6 c6 (by rw [Try.underlying61]; rfl) rfl
  obtain ⟨n7, rfl⟩ := rd 7 c7 (by rw [Try.underlying61]; rfl) rfl
  obtain ⟨n8, rfl⟩ := rd 8 c8 (by rw [Try.underlying61]; rfl) rfl
  obtain ⟨n9, rfl⟩ := rd 9 c9 (by rw [Try.underlying61]; rfl) rfl
  obtain ⟨n10, rfl⟩ := rd 10 c10 (by rw [Try.underlying61]; rfl) rfl
  exact ⟨⟨n0, n1, n2, n3, n4, n5, n6, n7, n8, n9, n10⟩, rfl⟩
theorem rd_st12 (h : DataW.trod enc Try.prog w base spare held fuel 63 cs = some x) : ∃ s, Foot (fun w => St12C w cs s) w All ∧ cs.length = 6 ∧ True := by
  obtain ⟨c0, c1, c2, c3, c4, c5, rfl⟩ := len6 ((rd_len Try.underlying63 h).trans (by kernel_rfl))
  obtain ⟨_, _, h0⟩ := rd_field Try.underlying63 h 0 3 0 1 rfl (by kernel_rfl)
  obtain ⟨_, _, h1⟩ := rd_field Try.underlying63 h 1 3 1 1 rfl (by kernel_rfl)
  obtain ⟨_, _, h2⟩ := rd_field Try.underlying63 h 2 3 2 1 rfl (by kernel_rfl)
  obtain ⟨_, _, h3⟩ := rd_field Try.underlying63 h 3 3 3 1 rfl (by kernel_rfl)
  obtain ⟨_, _, h4⟩ := rd_field Try.underlying63 h 4 3 4 1 rfl (by kernel_rfl)
  obtain ⟨_, _, h5⟩ := rd_field Try.underlying63 h 5 31 5 1 rfl (by kernel_rfl)
  obtain ⟨n0, e0, _⟩ := rd_int (cs := [c0]) Try.underlying3 h0
  obtain ⟨n1, e1, _⟩ := rd_int (cs := [c1]) Try.underlying3 h1
  obtain ⟨n2, e2, _⟩ := rd_int (cs := [c2]) Try.underlying3 h2
  obtain ⟨n3, e3, _⟩ := rd_int (cs := [c3]) Try.underlying3 h3
  obtain ⟨n4, e4, _⟩ := rd_int (cs := [c4]) Try.underlying3 h4
  obtain ⟨v, xs, e5, hF, _⟩ := rd_ints (cs := [c5]) h5
  cases e0; cases e1; cases e2; cases e3; cases e4; cases e5
  exact ⟨⟨n0, n1, n2, n3, n4, xs⟩, hF.imp fun w hw => ⟨_, rfl, hw⟩, rfl, trivial⟩
end
theorem St12C.open_ {w : World} {ok : Nat → Prop} {cs : List Value} {s : St12} (h : Foot (fun w => St12C w cs s) w ok) : ∃ A c, cs = st12C (.slice A s.ws.length c) s ∧ Foot (fun w => RInts w (.slice A s.ws.length c) s.ws) w ok := by
  obtain ⟨v, hc, hr⟩ := h.now
  obtain ⟨A, c, rfl, _⟩ := hr.slice
  refine ⟨A, c, hc, h.imp fun w' hw => ?_⟩
  obtain ⟨ws', hc', hr'⟩ := hw
  rw [hc] at hc'
  have : (Value.slice A s.ws.length c) = ws' := by simp [st12C] at hc'; exact hc'
  rw [this]; exact hr'
theorem RInts.cut8 {w : World} {A : Option Addr} {c : Nat} {xs : List Int} (h : RInts w (.slice A xs.length c) xs) : RInts w (.slice A (xs.take 8).length c) (xs.take 8) := by
  have h1 := RRow.take h (i := (xs.take 8).length) (by rw [ints_len, List.length_take]; omega)
  unfold RInts
  have h2 : ints (xs.take 8) = (ints xs).take (xs.take 8).length := by
    simp only [ints, List.map_take, List.length_take]
    rcases Nat.le_total 8 xs.length with h8 | h8
    · rw [Nat.min_eq_left h8]
    · rw [Nat.min_eq_right h8, List.take_of_length_le (by simpa using h8), List.take_of_length_le (by simp)]
  rw [h2]; exact h1
/-- Step.words. -/
theorem words12_spec {w : World} {ok : Nat → Prop} {A : Option Addr} {c : Nat} {s : St12} (h : Foot (fun w => RInts w (.slice A s.ws.length c) s.ws) w ok) :
    Calls Try.prog 51 #[.agg (st12C (.slice A s.ws.length c) s).toArray] w fun e w' => e = .returned (.slice A (s.ws.take 8).length c) ∧ Ext No w w' := by
  obtain ⟨A', c', e1, hc, hm⟩ := h.now.slice
  cases e1
  refine Calls.of_G1 Try.func51 rfl Try.ntmps51 rfl ?_
  refine J.at (C := Cls w No []) ?_ (Cls.start _ _)
  unfold st12C
  repeat (first | (apply JL.y; (first | (apply Y_assign; rfl) | (apply Y_fieldAddr; rfl; rfl) | (apply Y_load1 0; rfl; rfl; rfl; exact inferInstance) | (apply Y_len; rfl) | (apply Y_min; rfl; rfl)); rfl) | refine J.seq ?_ | refine J.region ?_ | refine JL.nil ?_ | (apply JL.box; rfl; rfl; rfl; intro _))
  apply JL.y (Y_slice_h rfl rfl (by omega)) rfl
  rw [show (min (s.ws.length : Int) 8).toNat = (s.ws.take 8).length by rw [List.length_take]; omega]
  repeat (first | (apply JL.y; (apply Y_assign; rfl); rfl) | refine JL.nil ?_)
  exact J.ret1 Try.func51 Try.results51 (RV.tm rfl) fun w' hw => ⟨rfl, hw.ext⟩
set_option maxHeartbeats 2000000 in
theorem gateJudges_walk {W : World} {k : Ch} {A : Option Addr} {c : Nat} {s : St12} (h : Foot (fun w => RInts w (.slice A s.ws.length c) s.ws) W All) :
    Calls Try.prog 6 #[.agg (chC k).toArray, .agg (st12C (.slice A s.ws.length c) s).toArray] W fun e w' => e = .returned (.bool true) ∧ Ext No W w' := by
  have h8 : Foot (fun w => RInts w (.slice A (s.ws.take 8).length c) (s.ws.take 8)) W All := h.imp fun w hw => hw.cut8
  refine Calls.of_G2 Try.func6 rfl Try.ntmps6 rfl ?_
  refine J.at (C := Cls W No []) ?_ (Cls.start _ _)
  unfold chC st12C
  repeat (first | (apply JL.y; (first | (apply Y_assign; rfl) | (apply Y_loadW 1; rfl; rfl; exact inferInstance; rfl) | (apply Y_not; rfl)); rfl) | refine J.seq ?_ | refine J.region ?_ | refine JL.nil ?_ | (apply JL.callq; rfl; rfl; (intro wc hwc; first | exact lives12_spec _ | exact good12_spec k _)) | (apply JL.box; rfl; rfl; rfl; intro _) | (apply JL.alloc; rfl; rfl; intro _) | refine J.skip ?_ | refine J.cond_f rfl ?_)
  unfold chC
  repeat (first | refine J.seq ?_ | refine JL.nil ?_ | (apply JL.store; (apply St_W 0; rfl; rfl; rfl; exact inferInstance; rfl; rfl; (first | (focus (simp [Value.oneCell']; done)) | (simp [Value.oneCell']; assumption) | (simp [Value.oneCell']; exact ⟨by assumption, by assumption⟩)); (first | (focus (simp only [List.set_cons_zero]; done)) | (simp only [List.set_cons_zero]; rfl)))))
  refine J.draw (S := Cls _ _ _) [] #[false, false, false, false, false, false, false, false, false, false, false, false, false, false, false, false, false, false, false, false, false, false, false, false, false, false, false, false, false, false, false, false, false, false, false, false, false, false, false, false, false, false, false, false, false, false, false, false, false, false, false, false] rfl rfl (fun w hw => hw.drew) (fun w hS => ?_)
  (apply DR.take 0 #[true, false, false, false, false, false, false, false, false, false, false, false, false, false, false, false, false, false, false, false, false, false, false, false, false, false, false, false, false, false, false, false, false, false, false, false, false, false, false, false, false, false, false, false, false, false, false, false, false, false, false, false]; rfl; kernel_rfl; (first | (apply Y_load1 0; rfl; rfl; rfl; exact inferInstance) | (apply Y_load1 1; rfl; rfl; rfl; exact inferInstance) | (apply Y_load1 2; rfl; rfl; rfl; exact inferInstance) | (apply Y_load1 3; rfl; rfl; rfl; exact inferInstance) | (apply Y_loadW 0; rfl; rfl; exact inferInstance; rfl) | (apply Y_loadW 1; rfl; rfl; exact inferInstance; rfl) | (apply Y_loadW 2; rfl; rfl; exact inferInstance; rfl) | (apply Y_loadW 3; rfl; rfl; exact inferInstance; rfl)); rfl; exact hS)
  (apply DR.pure 1 #[true, true, false, false, false, false, false, false, false, false, false, false, false, false, false, false, false, false, false, false, false, false, false, false, false, false, false, false, false, false, false, false, false, false, false, false, false, false, false, false, false, false, false, false, false, false, false, false, false, false, false, false]; rfl; kernel_rfl; (apply Y_fieldAddr; rfl; rfl); rfl)
  (apply DR.take 2 #[true, true, true, false, false, false, false, false, false, false, false, false, false, false, false, false, false, false, false, false, false, false, false, false, false, false, false, false, false, false, false, false, false, false, false, false, false, false, false, false, false, false, false, false, false, false, false, false, false, false, false, false]; rfl; kernel_rfl; (first | (apply Y_load1 0; rfl; rfl; rfl; exact inferInstance) | (apply Y_load1 1; rfl; rfl; rfl; exact inferInstance) | (apply Y_load1 2; rfl; rfl; rfl; exact inferInstance) | (apply Y_load1 3; rfl; rfl; rfl; exact inferInstance) | (apply Y_loadW 0; rfl; rfl; exact inferInstance; rfl) | (apply Y_loadW 1; rfl; rfl; exact inferInstance; rfl) | (apply Y_loadW 2; rfl; rfl; exact inferInstance; rfl) | (apply Y_loadW 3; rfl; rfl; exact inferInstance; rfl)); rfl; exact hS)
  (apply DR.pure 3 #[true, true, true, true, false, false, false, false, false, false, false, false, false, false, false, false, false, false, false, false, false, false, false, false, false, false, false, false, false, false, false, false, false, false, false, false, false, false, false, false, false, false, false, false, false, false, false, false, false, false, false, false]; rfl; kernel_rfl; (apply Y_fieldAddr; rfl; rfl); rfl)
  (apply DR.take 4 #[true, true, true, true, true, false, false, false, false, false, false, false, false, false, false, false, false, false, false, false, false, false, false, false, false, false, false, false, false, false, false, false, false, false, false, false, false, false, false, false, false, false, false, false, false, false, false, false, false, false, false, false]; rfl; kernel_rfl; (first | (apply Y_load1 0; rfl; rfl; rfl; exact inferInstance) | (apply Y_load1 1; rfl; rfl; rfl; exact inferInstance) | (apply Y_load1 2; rfl; rfl; rfl; exact inferInstance) | (apply Y_load1 3; rfl; rfl; rfl; exact inferInstance) | (apply Y_loadW 0; rfl; rfl; exact inferInstance; rfl) | (apply Y_loadW 1; rfl; rfl; exact inferInstance; rfl) | (apply Y_loadW 2; rfl; rfl; exact inferInstance; rfl) | (apply Y_loadW 3; rfl; rfl; exact inferInstance; rfl)); rfl; exact hS)
  (apply DR.take 5 #[true, true, true, true, true, true, false, false, false, false, false, false, false, false, false, false, false, false, false, false, false, false, false, false, false, false, false, false, false, false, false, false, false, false, false, false, false, false, false, false, false, false, false, false, false, false, false, false, false, false, false, false]; rfl; kernel_rfl; (first | (apply Y_load1 0; rfl; rfl; rfl; exact inferInstance) | (apply Y_load1 1; rfl; rfl; rfl; exact inferInstance) | (apply Y_load1 2; rfl; rfl; rfl; exact inferInstance) | (apply Y_load1 3; rfl; rfl; rfl; exact inferInstance) | (apply Y_loadW 0; rfl; rfl; exact inferInstance; rfl) | (apply Y_loadW 1; rfl; rfl; exact inferInstance; rfl) | (apply Y_loadW 2; rfl; rfl; exact inferInstance; rfl) | (apply Y_loadW 3; rfl; rfl; exact inferInstance; rfl)); rfl; exact hS)
  (apply DR.take 8 #[true, true, true, true, true, true, false, false, true, false, false, false, false, false, false, false, false, false, false, false, false, false, false, false, false, false, false, false, false, false, false, false, false, false, false, false, false, false, false, false, false, false, false, false, false, false, false, false, false, false, false, false]; rfl; kernel_rfl; (first | (apply Y_load1 0; rfl; rfl; rfl; exact inferInstance) | (apply Y_load1 1; rfl; rfl; rfl; exact inferInstance) | (apply Y_load1 2; rfl; rfl; rfl; exact inferInstance) | (apply Y_load1 3; rfl; rfl; rfl; exact inferInstance) | (apply Y_loadW 0; rfl; rfl; exact inferInstance; rfl) | (apply Y_loadW 1; rfl; rfl; exact inferInstance; rfl) | (apply Y_loadW 2; rfl; rfl; exact inferInstance; rfl) | (apply Y_loadW 3; rfl; rfl; exact inferInstance; rfl)); rfl; exact hS)
  (apply DR.pure 9 #[true, true, true, true, true, true, false, false, true, true, false, false, false, false, false, false, false, false, false, false, false, false, false, false, false, false, false, false, false, false, false, false, false, false, false, false, false, false, false, false, false, false, false, false, false, false, false, false, false, false, false, false]; rfl; kernel_rfl; (apply Y_fieldAddr; rfl; rfl); rfl)
  (apply DR.take 10 #[true, true, true, true, true, true, false, false, true, true, true, false, false, false, false, false, false, false, false, false, false, false, false, false, false, false, false, false, false, false, false, false, false, false, false, false, false, false, false, false, false, false, false, false, false, false, false, false, false, false, false, false]; rfl; kernel_rfl; (first | (apply Y_load1 0; rfl; rfl; rfl; exact inferInstance) | (apply Y_load1 1; rfl; rfl; rfl; exact inferInstance) | (apply Y_load1 2; rfl; rfl; rfl; exact inferInstance) | (apply Y_load1 3; rfl; rfl; rfl; exact inferInstance) | (apply Y_loadW 0; rfl; rfl; exact inferInstance; rfl) | (apply Y_loadW 1; rfl; rfl; exact inferInstance; rfl) | (apply Y_loadW 2; rfl; rfl; exact inferInstance; rfl) | (apply Y_loadW 3; rfl; rfl; exact inferInstance; rfl)); rfl; exact hS)
  (apply DR.pure 11 #[true, true, true, true, true, true, false, false, true, true, true, true, false, false, false, false, false, false, false, false, false, false, false, false, false, false, false, false, false, false, false, false, false, false, false, false, false, false, false, false, false, false, false, false, false, false, false, false, false, false, false, false]; rfl; kernel_rfl; (apply Y_fieldAddr; rfl; rfl); rfl)
  (apply DR.take 12 #[true, true, true, true, true, true, false, false, true, true, true, true, true, false, false, false, false, false, false, false, false, false, false, false, false, false, false, false, false, false, false, false, false, false, false, false, false, false, false, false, false, false, false, false, false, false, false, false, false, false, false, false]; rfl; kernel_rfl; (first | (apply Y_load1 0; rfl; rfl; rfl; exact inferInstance) | (apply Y_load1 1; rfl; rfl; rfl; exact inferInstance) | (apply Y_load1 2; rfl; rfl; rfl; exact inferInstance) | (apply Y_load1 3; rfl; rfl; rfl; exact inferInstance) | (apply Y_loadW 0; rfl; rfl; exact inferInstance; rfl) | (apply Y_loadW 1; rfl; rfl; exact inferInstance; rfl) | (apply Y_loadW 2; rfl; rfl; exact inferInstance; rfl) | (apply Y_loadW 3; rfl; rfl; exact inferInstance; rfl)); rfl; exact hS)
  (apply DR.take 13 #[true, true, true, true, true, true, false, false, true, true, true, true, true, true, false, false, false, false, false, false, false, false, false, false, false, false, false, false, false, false, false, false, false, false, false, false, false, false, false, false, false, false, false, false, false, false, false, false, false, false, false, false]; rfl; kernel_rfl; (first | (apply Y_load1 0; rfl; rfl; rfl; exact inferInstance) | (apply Y_load1 1; rfl; rfl; rfl; exact inferInstance) | (apply Y_load1 2; rfl; rfl; rfl; exact inferInstance) | (apply Y_load1 3; rfl; rfl; rfl; exact inferInstance) | (apply Y_loadW 0; rfl; rfl; exact inferInstance; rfl) | (apply Y_loadW 1; rfl; rfl; exact inferInstance; rfl) | (apply Y_loadW 2; rfl; rfl; exact inferInstance; rfl) | (apply Y_loadW 3; rfl; rfl; exact inferInstance; rfl)); rfl; exact hS)
  refine DR.callq 6 #[true, true, true, true, true, true, true, false, true, true, true, true, true, true, false, false, false, false, false, false, false, false, false, false, false, false, false, false, false, false, false, false, false, false, false, false, false, false, false, false, false, false, false, false, false, false, false, false, false, false, false, false] rfl (by kernel_rfl) rfl rfl rfl (words12_spec (h.ext0 hS.ext)) (fun w' hw' => hS.ext0 hw') (fun w hE2 hS => ?_)
  refine DR.callq 7 #[true, true, true, true, true, true, true, true, true, true, true, true, true, true, false, false, false, false, false, false, false, false, false, false, false, false, false, false, false, false, false, false, false, false, false, false, false, false, false, false, false, false, false, false, false, false, false, false, false, false, false, false] rfl (by kernel_rfl) rfl rfl rfl (judge_spec k s.mode s.lane (h8.ext0 hS.ext)) (fun w' hw' => hS.ext0 hw') (fun w hE2 hS => ?_)
  refine DR.callq 14 #[true, true, true, true, true, true, true, true, true, true, true, true, true, true, true, false, false, false, false, false, false, false, false, false, false, false, false, false, false, false, false, false, false, false, false, false, false, false, false, false, false, false, false, false, false, false, false, false, false, false, false, false] rfl (by kernel_rfl) rfl rfl rfl (words12_spec (h.ext0 hS.ext)) (fun w' hw' => hS.ext0 hw') (fun w hE2 hS => ?_)
  refine DR.callq 15 #[true, true, true, true, true, true, true, true, true, true, true, true, true, true, true, true, false, false, false, false, false, false, false, false, false, false, false, false, false, false, false, false, false, false, false, false, false, false, false, false, false, false, false, false, false, false, false, false, false, false, false, false] rfl (by kernel_rfl) rfl rfl rfl (rjudge_spec k s.mode s.lane (h8.ext0 hS.ext)) (fun w' hw' => hS.ext0 hw') (fun w hE2 hS => ?_)
  (apply DR.take 16 #[true, true, true, true, true, true, true, true, true, true, true, true, true, true, true, true, true, false, false, false, false, false, false, false, false, false, false, false, false, false, false, false, false, false, false, false, false, false, false, false, false, false, false, false, false, false, false, false, false, false, false, false]; rfl; kernel_rfl; exact Y_eql_t rfl rfl rfl; rfl; exact hS)
  (apply DR.pure 17 #[true, true, true, true, true, true, true, true, true, true, true, true, true, true, true, true, true, true, false, false, false, false, false, false, false, false, false, false, false, false, false, false, false, false, false, false, false, false, false, false, false, false, false, false, false, false, false, false, false, false, false, false]; rfl; kernel_rfl; (apply Y_move; rfl); rfl)
  (apply DR.takeG 18 #[true, true, true, true, true, true, true, true, true, true, true, true, true, true, true, true, true, true, true, false, false, false, false, false, false, false, false, false, false, false, false, false, false, false, false, false, false, false, false, false, false, false, false, false, false, false, false, false, false, false, false, false]; rfl; rfl; rfl; rfl; kernel_rfl; (first | (apply Y_load1 0; rfl; rfl; rfl; exact inferInstance) | (apply Y_load1 1; rfl; rfl; rfl; exact inferInstance) | (apply Y_load1 2; rfl; rfl; rfl; exact inferInstance) | (apply Y_load1 3; rfl; rfl; rfl; exact inferInstance) | (apply Y_loadW 0; rfl; rfl; exact inferInstance; rfl) | (apply Y_loadW 1; rfl; rfl; exact inferInstance; rfl) | (apply Y_loadW 2; rfl; rfl; exact inferInstance; rfl) | (apply Y_loadW 3; rfl; rfl; exact inferInstance; rfl)); rfl; exact hS)
  (apply DR.pureG 19 #[true, true, true, true, true, true, true, true, true, true, true, true, true, true, true, true, true, true, true, true, false, false, false, false, false, false, false, false, false, false, false, false, false, false, false, false, false, false, false, false, false, false, false, false, false, false, false, false, false, false, false, false]; rfl; rfl; rfl; rfl; kernel_rfl; (apply Y_fieldAddr; rfl; rfl); rfl)
  (apply DR.takeG 20 #[true, true, true, true, true, true, true, true, true, true, true, true, true, true, true, true, true, true, true, true, true, false, false, false, false, false, false, false, false, false, false, false, false, false, false, false, false, false, false, false, false, false, false, false, false, false, false, false, false, false, false, false]; rfl; rfl; rfl; rfl; kernel_rfl; (first | (apply Y_load1 0; rfl; rfl; rfl; exact inferInstance) | (apply Y_load1 1; rfl; rfl; rfl; exact inferInstance) | (apply Y_load1 2; rfl; rfl; rfl; exact inferInstance) | (apply Y_load1 3; rfl; rfl; rfl; exact inferInstance) | (apply Y_loadW 0; rfl; rfl; exact inferInstance; rfl) | (apply Y_loadW 1; rfl; rfl; exact inferInstance; rfl) | (apply Y_loadW 2; rfl; rfl; exact inferInstance; rfl) | (apply Y_loadW 3; rfl; rfl; exact inferInstance; rfl)); rfl; exact hS)
  (apply DR.pureG 21 #[true, true, true, true, true, true, true, true, true, true, true, true, true, true, true, true, true, true, true, true, true, true, false, false, false, false, false, false, false, false, false, false, false, false, false, false, false, false, false, false, false, false, false, false, false, false, false, false, false, false, false, false]; rfl; rfl; rfl; rfl; kernel_rfl; (apply Y_fieldAddr; rfl; rfl); rfl)
  (apply DR.takeG 22 #[true, true, true, true, true, true, true, true, true, true, true, true, true, true, true, true, true, true, true, true, true, true, true, false, false, false, false, false, false, false, false, false, false, false, false, false, false, false, false, false, false, false, false, false, false, false, false, false, false, false, false, false]; rfl; rfl; rfl; rfl; kernel_rfl; (first | (apply Y_load1 0; rfl; rfl; rfl; exact inferInstance) | (apply Y_load1 1; rfl; rfl; rfl; exact inferInstance) | (apply Y_load1 2; rfl; rfl; rfl; exact inferInstance) | (apply Y_load1 3; rfl; rfl; rfl; exact inferInstance) | (apply Y_loadW 0; rfl; rfl; exact inferInstance; rfl) | (apply Y_loadW 1; rfl; rfl; exact inferInstance; rfl) | (apply Y_loadW 2; rfl; rfl; exact inferInstance; rfl) | (apply Y_loadW 3; rfl; rfl; exact inferInstance; rfl)); rfl; exact hS)
  (apply DR.takeG 23 #[true, true, true, true, true, true, true, true, true, true, true, true, true, true, true, true, true, true, true, true, true, true, true, true, false, false, false, false, false, false, false, false, false, false, false, false, false, false, false, false, false, false, false, false, false, false, false, false, false, false, false, false]; rfl; rfl; rfl; rfl; kernel_rfl; (first | (apply Y_load1 0; rfl; rfl; rfl; exact inferInstance) | (apply Y_load1 1; rfl; rfl; rfl; exact inferInstance) | (apply Y_load1 2; rfl; rfl; rfl; exact inferInstance) | (apply Y_load1 3; rfl; rfl; rfl; exact inferInstance) | (apply Y_loadW 0; rfl; rfl; exact inferInstance; rfl) | (apply Y_loadW 1; rfl; rfl; exact inferInstance; rfl) | (apply Y_loadW 2; rfl; rfl; exact inferInstance; rfl) | (apply Y_loadW 3; rfl; rfl; exact inferInstance; rfl)); rfl; exact hS)
  (apply DR.takeG 26 #[true, true, true, true, true, true, true, true, true, true, true, true, true, true, true, true, true, true, true, true, true, true, true, true, false, false, true, false, false, false, false, false, false, false, false, false, false, false, false, false, false, false, false, false, false, false, false, false, false, false, false, false]; rfl; rfl; rfl; rfl; kernel_rfl; (first | (apply Y_load1 0; rfl; rfl; rfl; exact inferInstance) | (apply Y_load1 1; rfl; rfl; rfl; exact inferInstance) | (apply Y_load1 2; rfl; rfl; rfl; exact inferInstance) | (apply Y_load1 3; rfl; rfl; rfl; exact inferInstance) | (apply Y_loadW 0; rfl; rfl; exact inferInstance; rfl) | (apply Y_loadW 1; rfl; rfl; exact inferInstance; rfl) | (apply Y_loadW 2; rfl; rfl; exact inferInstance; rfl) | (apply Y_loadW 3; rfl; rfl; exact inferInstance; rfl)); rfl; exact hS)
  (apply DR.pureG 27 #[true, true, true, true, true, true, true, true, true, true, true, true, true, true, true, true, true, true, true, true, true, true, true, true, false, false, true, true, false, false, false, false, false, false, false, false, false, false, false, false, false, false, false, false, false, false, false, false, false, false, false, false]; rfl; rfl; rfl; rfl; kernel_rfl; (apply Y_fieldAddr; rfl; rfl); rfl)
  (apply DR.takeG 28 #[true, true, true, true, true, true, true, true, true, true, true, true, true, true, true, true, true, true, true, true, true, true, true, true, false, false, true, true, true, false, false, false, false, false, false, false, false, false, false, false, false, false, false, false, false, false, false, false, false, false, false, false]; rfl; rfl; rfl; rfl; kernel_rfl; (first | (apply Y_load1 0; rfl; rfl; rfl; exact inferInstance) | (apply Y_load1 1; rfl; rfl; rfl; exact inferInstance) | (apply Y_load1 2; rfl; rfl; rfl; exact inferInstance) | (apply Y_load1 3; rfl; rfl; rfl; exact inferInstance) | (apply Y_loadW 0; rfl; rfl; exact inferInstance; rfl) | (apply Y_loadW 1; rfl; rfl; exact inferInstance; rfl) | (apply Y_loadW 2; rfl; rfl; exact inferInstance; rfl) | (apply Y_loadW 3; rfl; rfl; exact inferInstance; rfl)); rfl; exact hS)
  (apply DR.pureG 29 #[true, true, true, true, true, true, true, true, true, true, true, true, true, true, true, true, true, true, true, true, true, true, true, true, false, false, true, true, true, true, false, false, false, false, false, false, false, false, false, false, false, false, false, false, false, false, false, false, false, false, false, false]; rfl; rfl; rfl; rfl; kernel_rfl; (apply Y_fieldAddr; rfl; rfl); rfl)
  (apply DR.takeG 30 #[true, true, true, true, true, true, true, true, true, true, true, true, true, true, true, true, true, true, true, true, true, true, true, true, false, false, true, true, true, true, true, false, false, false, false, false, false, false, false, false, false, false, false, false, false, false, false, false, false, false, false, false]; rfl; rfl; rfl; rfl; kernel_rfl; (first | (apply Y_load1 0; rfl; rfl; rfl; exact inferInstance) | (apply Y_load1 1; rfl; rfl; rfl; exact inferInstance) | (apply Y_load1 2; rfl; rfl; rfl; exact inferInstance) | (apply Y_load1 3; rfl; rfl; rfl; exact inferInstance) | (apply Y_loadW 0; rfl; rfl; exact inferInstance; rfl) | (apply Y_loadW 1; rfl; rfl; exact inferInstance; rfl) | (apply Y_loadW 2; rfl; rfl; exact inferInstance; rfl) | (apply Y_loadW 3; rfl; rfl; exact inferInstance; rfl)); rfl; exact hS)
  (apply DR.takeG 31 #[true, true, true, true, true, true, true, true, true, true, true, true, true, true, true, true, true, true, true, true, true, true, true, true, false, false, true, true, true, true, true, true, false, false, false, false, false, false, false, false, false, false, false, false, false, false, false, false, false, false, false, false]; rfl; rfl; rfl; rfl; kernel_rfl; (first | (apply Y_load1 0; rfl; rfl; rfl; exact inferInstance) | (apply Y_load1 1; rfl; rfl; rfl; exact inferInstance) | (apply Y_load1 2; rfl; rfl; rfl; exact inferInstance) | (apply Y_load1 3; rfl; rfl; rfl; exact inferInstance) | (apply Y_loadW 0; rfl; rfl; exact inferInstance; rfl) | (apply Y_loadW 1; rfl; rfl; exact inferInstance; rfl) | (apply Y_loadW 2; rfl; rfl; exact inferInstance; rfl) | (apply Y_loadW 3; rfl; rfl; exact inferInstance; rfl)); rfl; exact hS)
  refine DR.callqCG (cap := []) 24 #[true, true, true, true, true, true, true, true, true, true, true, true, true, true, true, true, true, true, true, true, true, true, true, true, true, false, true, true, true, true, true, true, false, false, false, false, false, false, false, false, false, false, false, false, false, false, false, false, false, false, false, false] rfl rfl rfl rfl (by kernel_rfl) rfl rfl inferInstance rfl rfl (words12_spec (h.ext0 hS.ext)) (fun w' hw' => hS.ext0 hw') (fun w hE2 hS => ?_)
  refine DR.callqCG (cap := []) 25 #[true, true, true, true, true, true, true, true, true, true, true, true, true, true, true, true, true, true, true, true, true, true, true, true, true, true, true, true, true, true, true, true, false, false, false, false, false, false, false, false, false, false, false, false, false, false, false, false, false, false, false, false] rfl rfl rfl rfl (by kernel_rfl) rfl rfl inferInstance rfl rfl (judge_spec (goodC k) s.mode s.lane (h8.ext0 hS.ext)) (fun w' hw' => hS.ext0 hw') (fun w hE2 hS => ?_)
  refine DR.callqCG (cap := []) 32 #[true, true, true, true, true, true, true, true, true, true, true, true, true, true, true, true, true, true, true, true, true, true, true, true, true, true, true, true, true, true, true, true, true, false, false, false, false, false, false, false, false, false, false, false, false, false, false, false, false, false, false, false] rfl rfl rfl rfl (by kernel_rfl) rfl rfl inferInstance rfl rfl (words12_spec (h.ext0 hS.ext)) (fun w' hw' => hS.ext0 hw') (fun w hE2 hS => ?_)
  refine DR.callqCG (cap := []) 33 #[true, true, true, true, true, true, true, true, true, true, true, true, true, true, true, true, true, true, true, true, true, true, true, true, true, true, true, true, true, true, true, true, true, true, false, false, false, false, false, false, false, false, false, false, false, false, false, false, false, false, false, false] rfl rfl rfl rfl (by kernel_rfl) rfl rfl inferInstance rfl rfl (rjudge_spec (goodC k) s.mode s.lane (h8.ext0 hS.ext)) (fun w' hw' => hS.ext0 hw') (fun w hE2 hS => ?_)
  (apply DR.takeG 34 #[true, true, true, true, true, true, true, true, true, true, true, true, true, true, true, true, true, true, true, true, true, true, true, true, true, true, true, true, true, true, true, true, true, true, true, false, false, false, false, false, false, false, false, false, false, false, false, false, false, false, false, false]; rfl; rfl; rfl; rfl; kernel_rfl; exact Y_eql_t rfl rfl rfl; rfl; exact hS)
  (apply DR.pure 35 #[true, true, true, true, true, true, true, true, true, true, true, true, true, true, true, true, true, true, true, true, true, true, true, true, true, true, true, true, true, true, true, true, true, true, true, true, false, false, false, false, false, false, false, false, false, false, false, false, false, false, false, false]; rfl; kernel_rfl; (first | (apply Y_pick_t; rfl; rfl) | (apply Y_pick_f; rfl; rfl)); rfl)
  (apply DR.pure 36 #[true, true, true, true, true, true, true, true, true, true, true, true, true, true, true, true, true, true, true, true, true, true, true, true, true, true, true, true, true, true, true, true, true, true, true, true, true, false, false, false, false, false, false, false, false, false, false, false, false, false, false, false]; rfl; kernel_rfl; (apply Y_move; rfl); rfl)
  (apply DR.takeG 37 #[true, true, true, true, true, true, true, true, true, true, true, true, true, true, true, true, true, true, true, true, true, true, true, true, true, true, true, true, true, true, true, true, true, true, true, true, true, true, false, false, false, false, false, false, false, false, false, false, false, false, false, false]; rfl; rfl; rfl; rfl; kernel_rfl; (first | (apply Y_load1 0; rfl; rfl; rfl; exact inferInstance) | (apply Y_load1 1; rfl; rfl; rfl; exact inferInstance) | (apply Y_load1 2; rfl; rfl; rfl; exact inferInstance) | (apply Y_load1 3; rfl; rfl; rfl; exact inferInstance) | (apply Y_loadW 0; rfl; rfl; exact inferInstance; rfl) | (apply Y_loadW 1; rfl; rfl; exact inferInstance; rfl) | (apply Y_loadW 2; rfl; rfl; exact inferInstance; rfl) | (apply Y_loadW 3; rfl; rfl; exact inferInstance; rfl)); rfl; exact hS)
  (apply DR.pureG 38 #[true, true, true, true, true, true, true, true, true, true, true, true, true, true, true, true, true, true, true, true, true, true, true, true, true, true, true, true, true, true, true, true, true, true, true, true, true, true, true, false, false, false, false, false, false, false, false, false, false, false, false, false]; rfl; rfl; rfl; rfl; kernel_rfl; (apply Y_fieldAddr; rfl; rfl); rfl)
  (apply DR.takeG 39 #[true, true, true, true, true, true, true, true, true, true, true, true, true, true, true, true, true, true, true, true, true, true, true, true, true, true, true, true, true, true, true, true, true, true, true, true, true, true, true, true, false, false, false, false, false, false, false, false, false, false, false, false]; rfl; rfl; rfl; rfl; kernel_rfl; (first | (apply Y_load1 0; rfl; rfl; rfl; exact inferInstance) | (apply Y_load1 1; rfl; rfl; rfl; exact inferInstance) | (apply Y_load1 2; rfl; rfl; rfl; exact inferInstance) | (apply Y_load1 3; rfl; rfl; rfl; exact inferInstance) | (apply Y_loadW 0; rfl; rfl; exact inferInstance; rfl) | (apply Y_loadW 1; rfl; rfl; exact inferInstance; rfl) | (apply Y_loadW 2; rfl; rfl; exact inferInstance; rfl) | (apply Y_loadW 3; rfl; rfl; exact inferInstance; rfl)); rfl; exact hS)
  (apply DR.takeG 40 #[true, true, true, true, true, true, true, true, true, true, true, true, true, true, true, true, true, true, true, true, true, true, true, true, true, true, true, true, true, true, true, true, true, true, true, true, true, true, true, true, true, false, false, false, false, false, false, false, false, false, false, false]; rfl; rfl; rfl; rfl; kernel_rfl; (first | (apply Y_load1 0; rfl; rfl; rfl; exact inferInstance) | (apply Y_load1 1; rfl; rfl; rfl; exact inferInstance) | (apply Y_load1 2; rfl; rfl; rfl; exact inferInstance) | (apply Y_load1 3; rfl; rfl; rfl; exact inferInstance) | (apply Y_loadW 0; rfl; rfl; exact inferInstance; rfl) | (apply Y_loadW 1; rfl; rfl; exact inferInstance; rfl) | (apply Y_loadW 2; rfl; rfl; exact inferInstance; rfl) | (apply Y_loadW 3; rfl; rfl; exact inferInstance; rfl)); rfl; exact hS)
  (apply DR.takeG 43 #[true, true, true, true, true, true, true, true, true, true, true, true, true, true, true, true, true, true, true, true, true, true, true, true, true, true, true, true, true, true, true, true, true, true, true, true, true, true, true, true, true, false, false, true, false, false, false, false, false, false, false, false]; rfl; rfl; rfl; rfl; kernel_rfl; (first | (apply Y_load1 0; rfl; rfl; rfl; exact inferInstance) | (apply Y_load1 1; rfl; rfl; rfl; exact inferInstance) | (apply Y_load1 2; rfl; rfl; rfl; exact inferInstance) | (apply Y_load1 3; rfl; rfl; rfl; exact inferInstance) | (apply Y_loadW 0; rfl; rfl; exact inferInstance; rfl) | (apply Y_loadW 1; rfl; rfl; exact inferInstance; rfl) | (apply Y_loadW 2; rfl; rfl; exact inferInstance; rfl) | (apply Y_loadW 3; rfl; rfl; exact inferInstance; rfl)); rfl; exact hS)
  (apply DR.pureG 44 #[true, true, true, true, true, true, true, true, true, true, true, true, true, true, true, true, true, true, true, true, true, true, true, true, true, true, true, true, true, true, true, true, true, true, true, true, true, true, true, true, true, false, false, true, true, false, false, false, false, false, false, false]; rfl; rfl; rfl; rfl; kernel_rfl; (apply Y_fieldAddr; rfl; rfl); rfl)
  (apply DR.takeG 45 #[true, true, true, true, true, true, true, true, true, true, true, true, true, true, true, true, true, true, true, true, true, true, true, true, true, true, true, true, true, true, true, true, true, true, true, true, true, true, true, true, true, false, false, true, true, true, false, false, false, false, false, false]; rfl; rfl; rfl; rfl; kernel_rfl; (first | (apply Y_load1 0; rfl; rfl; rfl; exact inferInstance) | (apply Y_load1 1; rfl; rfl; rfl; exact inferInstance) | (apply Y_load1 2; rfl; rfl; rfl; exact inferInstance) | (apply Y_load1 3; rfl; rfl; rfl; exact inferInstance) | (apply Y_loadW 0; rfl; rfl; exact inferInstance; rfl) | (apply Y_loadW 1; rfl; rfl; exact inferInstance; rfl) | (apply Y_loadW 2; rfl; rfl; exact inferInstance; rfl) | (apply Y_loadW 3; rfl; rfl; exact inferInstance; rfl)); rfl; exact hS)
  (apply DR.takeG 46 #[true, true, true, true, true, true, true, true, true, true, true, true, true, true, true, true, true, true, true, true, true, true, true, true, true, true, true, true, true, true, true, true, true, true, true, true, true, true, true, true, true, false, false, true, true, true, true, false, false, false, false, false]; rfl; rfl; rfl; rfl; kernel_rfl; (first | (apply Y_load1 0; rfl; rfl; rfl; exact inferInstance) | (apply Y_load1 1; rfl; rfl; rfl; exact inferInstance) | (apply Y_load1 2; rfl; rfl; rfl; exact inferInstance) | (apply Y_load1 3; rfl; rfl; rfl; exact inferInstance) | (apply Y_loadW 0; rfl; rfl; exact inferInstance; rfl) | (apply Y_loadW 1; rfl; rfl; exact inferInstance; rfl) | (apply Y_loadW 2; rfl; rfl; exact inferInstance; rfl) | (apply Y_loadW 3; rfl; rfl; exact inferInstance; rfl)); rfl; exact hS)
  refine DR.callqCG (cap := []) 41 #[true, true, true, true, true, true, true, true, true, true, true, true, true, true, true, true, true, true, true, true, true, true, true, true, true, true, true, true, true, true, true, true, true, true, true, true, true, true, true, true, true, true, false, true, true, true, true, false, false, false, false, false] rfl rfl rfl rfl (by kernel_rfl) rfl rfl inferInstance rfl rfl (words12_spec (h.ext0 hS.ext)) (fun w' hw' => hS.ext0 hw') (fun w hE2 hS => ?_)
  refine DR.callqCG (cap := []) 42 #[true, true, true, true, true, true, true, true, true, true, true, true, true, true, true, true, true, true, true, true, true, true, true, true, true, true, true, true, true, true, true, true, true, true, true, true, true, true, true, true, true, true, true, true, true, true, true, false, false, false, false, false] rfl rfl rfl rfl (by kernel_rfl) rfl rfl inferInstance rfl rfl (judge_spec (goodC k) 0 s.lane (h8.ext0 hS.ext)) (fun w' hw' => hS.ext0 hw') (fun w hE2 hS => ?_)
  refine DR.callqCG (cap := []) 47 #[true, true, true, true, true, true, true, true, true, true, true, true, true, true, true, true, true, true, true, true, true, true, true, true, true, true, true, true, true, true, true, true, true, true, true, true, true, true, true, true, true, true, true, true, true, true, true, true, false, false, false, false] rfl rfl rfl rfl (by kernel_rfl) rfl rfl inferInstance rfl rfl (words12_spec (h.ext0 hS.ext)) (fun w' hw' => hS.ext0 hw') (fun w hE2 hS => ?_)
  refine DR.callqCG (cap := []) 48 #[true, true, true, true, true, true, true, true, true, true, true, true, true, true, true, true, true, true, true, true, true, true, true, true, true, true, true, true, true, true, true, true, true, true, true, true, true, true, true, true, true, true, true, true, true, true, true, true, true, false, false, false] rfl rfl rfl rfl (by kernel_rfl) rfl rfl inferInstance rfl rfl (rjudge_spec (goodC k) 0 s.lane (h8.ext0 hS.ext)) (fun w' hw' => hS.ext0 hw') (fun w hE2 hS => ?_)
  (apply DR.takeG 49 #[true, true, true, true, true, true, true, true, true, true, true, true, true, true, true, true, true, true, true, true, true, true, true, true, true, true, true, true, true, true, true, true, true, true, true, true, true, true, true, true, true, true, true, true, true, true, true, true, true, true, false, false]; rfl; rfl; rfl; rfl; kernel_rfl; exact Y_eql_t rfl rfl rfl; rfl; exact hS)
  (apply DR.pure 50 #[true, true, true, true, true, true, true, true, true, true, true, true, true, true, true, true, true, true, true, true, true, true, true, true, true, true, true, true, true, true, true, true, true, true, true, true, true, true, true, true, true, true, true, true, true, true, true, true, true, true, true, false]; rfl; kernel_rfl; (first | (apply Y_pick_t; rfl; rfl) | (apply Y_pick_f; rfl; rfl)); rfl)
  (apply DR.pure 51 #[true, true, true, true, true, true, true, true, true, true, true, true, true, true, true, true, true, true, true, true, true, true, true, true, true, true, true, true, true, true, true, true, true, true, true, true, true, true, true, true, true, true, true, true, true, true, true, true, true, true, true, true]; rfl; kernel_rfl; (apply Y_assign; rfl); rfl)
  refine DR.done (by kernel_rfl) ?_
  refine J.at (C := Cls _ _ _) ?_ hS
  skip
  exact J.ret1 Try.func6 Try.results6 (RV.tm rfl) fun w' hw' => ⟨rfl, hw'.ext⟩
end Go.Proofs.Ytmkpbbdocndfbaa
