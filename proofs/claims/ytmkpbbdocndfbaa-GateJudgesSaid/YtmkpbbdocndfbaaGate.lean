/- The gate: the object, and all but Offer. -/
import Derived.Test.YtmkpbbdocndfbaaGood3
namespace Go.Proofs.Ytmkpbbdocndfbaa
open Go.RowKit Go.Proofs
attribute [local irreducible] Yl JL J G GL GA GQ DR DRA

def gC (k : Ch) (gl gb : Nat) (seq : Int) : List Value := [.int .i64 k.kind, .int .i64 k.from_, .int .i64 k.to, .int .i64 k.words, .int .i64 k.refresh, .int .i64 k.lanes, .int .i64 k.depth, .int .i64 k.hold, .int .i64 k.life, .int .i64 k.rate, .int .i64 k.cap, .pointer (some ⟨gl, 0, none⟩), .pointer (some ⟨gb, 0, none⟩), .int .i64 seq]
/-- A gate at g, its lanes at gl, its bucket at gb. -/
structure GObj (w : World) (g gl gb : Nat) (Ol E : Nat → Prop) (k : Ch) (ms : List Msg) (t rd seq : Int) : Prop where
  b : BlkIn w ⟨g, gC k gl gb seq, 157⟩
  l : LObj w gl Ol E (cl 1 3 k.lanes) (cl 1 8 k.depth) ms
  kb : BlkIn w ⟨gb, bC (cl 0 64 k.rate) (cl 1 64 k.cap) t rd, 189⟩
  bi : BIn (cl 0 64 k.rate) (cl 1 64 k.cap) t rd
  ne : g ≠ gb
  og : ¬ Ol g ∧ ¬ E g
  ob : ¬ Ol gb ∧ ¬ E gb
/-- The gate's blocks. -/
def GB (g gb : Nat) (Ol : Nat → Prop) (q : Nat) : Prop := q = g ∨ q = gb ∨ Ol q
/-- A gate behind an operation. -/
def GTo (w w' : World) (g gl gb : Nat) (Ol E : Nat → Prop) (k : Ch) (ms : List Msg) (t rd seq : Int) : Prop :=
  Ext (GB g gb Ol) w w' ∧ ∃ Ol' E', GObj w' g gl gb Ol' E' k ms t rd seq ∧ (∀ q, Ol' q → Ol q ∨ w.heap.size ≤ q) ∧ (∀ q, E' q → E q ∨ w.heap.size ≤ q)
section
variable {w w1 w' : World} {g gl gb : Nat} {Ol E D : Nat → Prop} {k : Ch} {ms ms' : List Msg} {t rd seq : Int}
theorem GObj.ext (h : GObj w g gl gb Ol E k ms t rd seq) (he : Ext D w w1) (hd : ∀ q, GB g gb Ol q ∨ E q → ¬ D q) : GObj w1 g gl gb Ol E k ms t rd seq :=
  ⟨h.b.keep he (hd g (.inl (.inl rfl))), h.l.ext he fun q hq => hq.elim (fun h => hd q (.inl (.inr (.inr h)))) fun h => hd q (.inr h), h.kb.keep he (hd gb (.inl (.inr (.inl rfl)))), h.bi, h.ne, h.og, h.ob⟩
theorem GObj.ext0 (h : GObj w g gl gb Ol E k ms t rd seq) (he : Ext No w w1) : GObj w1 g gl gb Ol E k ms t rd seq := h.ext he fun _ _ h => h
theorem GObj.lt (h : GObj w g gl gb Ol E k ms t rd seq) {q : Nat} (hq : GB g gb Ol q ∨ E q) : q < w.heap.size := by
  rcases hq with (rfl | rfl | hq) | hq
  · exact h.b.lt
  · exact h.kb.lt
  · exact h.l.lt q (.inl hq)
  · exact h.l.lt q (.inr hq)
theorem GObj.ne_ (h : GObj w g gl gb Ol E k ms t rd seq) {q : Nat} (hq : GB g gb Ol q) : ¬ E q := by
  rcases hq with rfl | rfl | hq
  · exact h.og.2
  · exact h.ob.2
  · exact h.l.oe q hq
/-- The lanes have turned. -/
theorem GObj.lane (h : GObj w g gl gb Ol E k ms t rd seq) (hl : LTo w w' gl Ol E (cl 1 3 k.lanes) (cl 1 8 k.depth) ms') : GTo w w' g gl gb Ol E k ms' t rd seq := by
  obtain ⟨hE, O', E', hL, hO, hE', -, -⟩ := hl.open_
  have hlg := h.lt (.inl (.inl rfl))
  have hlb := h.lt (.inl (.inr (.inl rfl)))
  refine ⟨hE.mono fun q _ hq => .inr (.inr hq), O', E', ⟨h.b.keep hE h.og.1, hL, h.kb.keep hE h.ob.1, h.bi, h.ne, ⟨fun h1 => ?_, fun h1 => ?_⟩, ⟨fun h1 => ?_, fun h1 => ?_⟩⟩, hO, hE'⟩
  · rcases hO _ h1 with h2 | h2
    · exact h.og.1 h2
    · omega
  · rcases hE' _ h1 with h2 | h2
    · exact h.og.2 h2
    · omega
  · rcases hO _ h1 with h2 | h2
    · exact h.ob.1 h2
    · omega
  · rcases hE' _ h1 with h2 | h2
    · exact h.ob.2 h2
    · omega
/-- The bucket has turned. -/
theorem GObj.bucket (h : GObj w g gl gb Ol E k ms t rd seq) {t' rd' : Int} (he : Ext (fun q => q = gb) w w') (hB : BlkIn w' ⟨gb, bC (cl 0 64 k.rate) (cl 1 64 k.cap) t' rd', 189⟩) (hb : BIn (cl 0 64 k.rate) (cl 1 64 k.cap) t' rd') : GObj w' g gl gb Ol E k ms t' rd' seq :=
  ⟨h.b.keep he h.ne, h.l.ext he fun q hq hg => by
    subst hg
    exact hq.elim h.ob.1 h.ob.2, hB, hb, h.ne, h.og, h.ob⟩
/-- The number has turned. -/
theorem GObj.num (h : GObj w g gl gb Ol E k ms t rd seq) {seq' : Int} (he : Ext (fun q => q = g) w w') (hB : BlkIn w' ⟨g, gC k gl gb seq', 157⟩) : GObj w' g gl gb Ol E k ms t rd seq' :=
  ⟨hB, h.l.ext he fun q hq hg => by
    subst hg
    exact hq.elim h.og.1 h.og.2, h.kb.keep he (fun h' => h.ne h'.symm), h.bi, h.ne, h.og, h.ob⟩
theorem GTo.same (h : GObj w g gl gb Ol E k ms t rd seq) (he : Ext No w w') : GTo w w' g gl gb Ol E k ms t rd seq := ⟨he.no, Ol, E, h.ext0 he, fun _ h => .inl h, fun _ h => .inl h⟩
/-- lanes. -/
theorem gLanes_spec (h : GObj w g gl gb Ol E k ms t rd seq) : Calls Try.prog 127 #[.pointer (some ⟨g, 0, none⟩)] w fun e w' => e = .returned (.pointer (some ⟨gl, 0, none⟩)) ∧ Ext No w w' := by
  have hb := h.b
  refine Calls.of_G1 Try.func127 rfl Try.ntmps127 rfl ?_
  refine J.at (C := Cls w (fun q => q = g) [_]) ?_ (Cls.start1 hb)
  unfold gC
  repeat (first | (apply JL.y; (first | (apply Y_move; rfl) | (apply Y_assign; rfl) | (apply Y_fieldAddr; rfl; rfl) | (apply Y_load1 0; rfl; rfl; rfl; exact inferInstance) | (apply Y_nilCheck; rfl) | (apply Y_pnil_f; rfl)); rfl) | refine J.seq ?_ | refine J.region ?_ | refine JL.nil ?_ | refine J.skip ?_ | refine J.cond_f rfl ?_)
  exact J.ret1 Try.func127 Try.results127 (RV.tm rfl) fun w' hw' => ⟨rfl, hw'.still fun q hq => ⟨_, .head _, hq.symm, hb⟩⟩
/-- Len. -/
theorem gLen_spec (h : GObj w g gl gb Ol E k ms t rd seq) : Calls Try.prog 56 #[.pointer (some ⟨g, 0, none⟩)] w fun e w' => e = .returned (.int .i64 ms.length) ∧ Ext No w w' := by
  refine Calls.of_G1 Try.func56 rfl Try.ntmps56 rfl ?_
  refine J.at (C := Cls w No []) ?_ (Cls.start _ _)
  repeat (first | (apply JL.y; (first | (apply Y_move; rfl) | (apply Y_assign; rfl)); rfl) | refine J.seq ?_ | refine J.region ?_ | refine JL.nil ?_ | (apply JL.callq; rfl; rfl; (intro wc hwc; first | exact gLanes_spec (h.ext0 hwc.ext) | exact laneLen_spec (h.l.ext0 hwc.ext))))
  exact J.ret1 Try.func56 Try.results56 (RV.tm rfl) fun w' hw' => ⟨rfl, hw'.ext⟩
/-- Seq. -/
theorem gSeq_spec (h : GObj w g gl gb Ol E k ms t rd seq) : Calls Try.prog 63 #[.pointer (some ⟨g, 0, none⟩)] w fun e w' => e = .returned (.int .i64 seq) ∧ Ext No w w' := by
  have hb := h.b
  refine Calls.of_G1 Try.func63 rfl Try.ntmps63 rfl ?_
  refine J.at (C := Cls w (fun q => q = g) [_]) ?_ (Cls.start1 hb)
  unfold gC
  repeat (first | (apply JL.y; (first | (apply Y_move; rfl) | (apply Y_assign; rfl) | (apply Y_fieldAddr; rfl; rfl) | (apply Y_load1 0; rfl; rfl; rfl; exact inferInstance) | (apply Y_nilCheck; rfl) | (apply Y_pnil_f; rfl)); rfl) | refine J.seq ?_ | refine J.region ?_ | refine JL.nil ?_ | refine J.skip ?_ | refine J.cond_f rfl ?_)
  exact J.ret1 Try.func63 Try.results63 (RV.tm rfl) fun w' hw' => ⟨rfl, hw'.still fun q hq => ⟨_, .head _, hq.symm, hb⟩⟩
/-- Tokens. -/
theorem gTokens_spec (h : GObj w g gl gb Ol E k ms t rd seq) (round : Int) : Calls Try.prog 59 #[.pointer (some ⟨g, 0, none⟩), .int .i64 round] w fun e w' => ∃ r, e = .returned r ∧ r = .int .i64 (bTok (cl 0 64 k.rate) (cl 1 64 k.cap) t rd round) ∧ Ext (fun q => q = gb) w w' ∧ GObj w' g gl gb Ol E k ms (bTok (cl 0 64 k.rate) (cl 1 64 k.cap) t rd round) (bRnd rd round) seq := by
  have hb := h.b
  refine Calls.of_G2 Try.func59 rfl Try.ntmps59 rfl ?_
  refine J.at (C := Cls w (fun q => q = g) [_]) ?_ (Cls.start1 hb)
  unfold gC
  repeat (first | (apply JL.y; (first | (apply Y_move; rfl) | (apply Y_assign; rfl) | (apply Y_fieldAddr; rfl; rfl) | (apply Y_load1 0; rfl; rfl; rfl; exact inferInstance) | (apply Y_nilCheck; rfl) | (apply Y_pnil_f; rfl)); rfl) | refine J.seq ?_ | refine J.region ?_ | refine JL.nil ?_ | refine J.skip ?_ | refine J.cond_f rfl ?_)
  refine JL.call (fun w1 v w2 => v = .int .i64 (bTok (cl 0 64 k.rate) (cl 1 64 k.cap) t rd round) ∧ Ext (fun q => q = gb) w1 w2 ∧ BlkIn w2 ⟨gb, bC (cl 0 64 k.rate) (cl 1 64 k.cap) (bTok (cl 0 64 k.rate) (cl 1 64 k.cap) t rd round) (bRnd rd round), 189⟩) rfl rfl (fun w1 hw1 => (bTokens_spec (h.kb.ext0 (hw1.still fun q hq => ⟨_, .head _, hq.symm, hb⟩)) h.bi round).mono fun e w' he => ⟨_, he.1, rfl, he.2⟩) fun w1 x w2 hw1 ⟨hx, hE, hB⟩ => ?_
  subst hx
  have hE01 := hw1.still fun q hq => ⟨_, .head _, hq.symm, hb⟩
  refine GL.of_JL (C := Cls w2 No []) (Cls.start _ _) ?_
  repeat (first | (apply JL.y; (apply Y_assign; rfl); rfl) | refine JL.nil ?_)
  exact J.ret1 Try.func59 Try.results59 (RV.tm rfl) fun w' hw' => ⟨_, rfl, rfl, (hE01.no.trans hE).thenNo hw'.ext, ((h.ext0 hE01).bucket hE hB (h.bi.come round)).ext0 hw'.ext⟩
/-- All. -/
theorem gAll_spec (h : GObj w g gl gb Ol E k ms t rd seq) : Calls Try.prog 58 #[.pointer (some ⟨g, 0, none⟩)] w fun e w' => ∃ r, e = .returned r ∧ Ext No w w' ∧ ∃ zs, New 33 5 MsgC w w' r zs ∧ zs.map (·.2) = St.srt Msg.lane ms := by
  refine Calls.of_G1 Try.func58 rfl Try.ntmps58 rfl ?_
  refine J.at (C := Cls w No []) ?_ (Cls.start _ _)
  repeat (first | (apply JL.y; (first | (apply Y_move; rfl) | (apply Y_assign; rfl)); rfl) | refine J.seq ?_ | refine J.region ?_ | refine JL.nil ?_ | (apply JL.callq; rfl; rfl; (intro wc hwc; first | exact gLanes_spec (h.ext0 hwc.ext))))
  refine JL.call _ rfl rfl (fun w1 hw1 => laneAll_spec (h.l.ext0 hw1.ext)) fun w1 r w2 hw1 ⟨hE, zs, hN, hz⟩ => ?_
  refine GL.of_JL (C := Cls w2 No []) (Cls.start _ _) ?_
  repeat (first | (apply JL.y; (apply Y_assign; rfl); rfl) | refine JL.nil ?_)
  exact J.ret1 Try.func58 Try.results58 (RV.tm rfl) fun w' hw' => ⟨_, rfl, (hw1.ext.trans hE).trans hw'.ext, zs, (hN.ext0 hw'.ext).elder hw1.ext.size, hz⟩
theorem LTo.pre {O : Nat → Prop} {gl : Nat} {ln pl : Int} (h : LTo w1 w' gl O E ln pl ms) (he : Ext No w w1) : LTo w w' gl O E ln pl ms := by
  obtain ⟨h1, O', E', h2, h3, h4⟩ := h
  have := he.size
  exact ⟨he.no.trans h1, O', E', h2, fun q hq => (h3 q hq).imp id fun h => by omega, fun q hq => (h4 q hq).imp id fun h => by omega⟩
theorem LTo.post {O : Nat → Prop} {gl : Nat} {ln pl : Int} (h : LTo w w1 gl O E ln pl ms) (he : Ext No w1 w') : LTo w w' gl O E ln pl ms := by
  obtain ⟨h1, O', E', h2, h3, h4⟩ := h
  exact ⟨h1.thenNo he, O', E', h2.ext0 he, h3, h4⟩
/-- Sweep. -/
theorem gSweep_spec (h : GObj w g gl gb Ol E k ms t rd seq) (now : Int) : Calls Try.prog 55 #[.pointer (some ⟨g, 0, none⟩), .int .i64 now] w fun e w' => ∃ r, e = .returned r ∧ ∃ zs : Zs, Own 33 5 MsgC w' (fun q => E q ∧ q < w.heap.size) r zs ∧ (∀ q, r.ownBlock = some q → w.heap.size ≤ q) ∧ zs.map (·.2) = (St.srt Msg.lane ms).filter (late now) ∧ LTo w w' gl Ol E (cl 1 3 k.lanes) (cl 1 8 k.depth) ((St.srt Msg.lane ms).filter fun m => !late now m) := by
  refine Calls.of_G2 Try.func55 rfl Try.ntmps55 rfl ?_
  refine J.at (C := Cls w No []) ?_ (Cls.start _ _)
  repeat (first | (apply JL.y; (first | (apply Y_move; rfl) | (apply Y_assign; rfl)); rfl) | refine J.seq ?_ | refine J.region ?_ | refine JL.nil ?_ | (apply JL.callq; rfl; rfl; (intro wc hwc; first | exact gLanes_spec (h.ext0 hwc.ext))))
  refine JL.call _ rfl rfl (fun w1 hw1 => laneSweep_spec (h.l.ext0 hw1.ext) now) fun w1 r w2 hw1 ⟨zs, hO, hn, hz, hT⟩ => ?_
  have hs := hw1.ext.size
  have hE : ∀ {q : Nat}, GB g gb Ol q ∨ E q → q < w.heap.size := fun hq => h.lt hq
  refine GL.of_JL (C := Cls w2 No []) (Cls.start _ _) ?_
  repeat (first | (apply JL.y; (apply Y_assign; rfl); rfl) | refine JL.nil ?_)
  exact J.ret1 Try.func55 Try.results55 (RV.tm rfl) fun w' hw' => ⟨_, rfl, zs, (hO.ext0 hw'.ext).mono (fun q _ hq => ⟨hq.1, hE (.inr hq.1)⟩) (fun q hq hv => by have := hn q hv; omega), fun q hq => by have := hn q hq; omega, hz, (hT.pre hw1.ext).post hw'.ext⟩
/-- Flush. -/
theorem gFlush_spec (h : GObj w g gl gb Ol E k ms t rd seq) : Calls Try.prog 66 #[.pointer (some ⟨g, 0, none⟩)] w fun e w' => ∃ r, e = .returned r ∧ ∃ zs : Zs, Own 33 5 MsgC w' (fun q => E q ∧ q < w.heap.size) r zs ∧ (∀ q, r.ownBlock = some q → w.heap.size ≤ q) ∧ zs.map (·.2) = St.srt Msg.lane ms ∧ LTo w w' gl Ol E (cl 1 3 k.lanes) (cl 1 8 k.depth) [] := by
  refine Calls.of_G1 Try.func66 rfl Try.ntmps66 rfl ?_
  refine J.at (C := Cls w No []) ?_ (Cls.start _ _)
  repeat (first | (apply JL.y; (first | (apply Y_move; rfl) | (apply Y_assign; rfl)); rfl) | refine J.seq ?_ | refine J.region ?_ | refine JL.nil ?_ | (apply JL.callq; rfl; rfl; (intro wc hwc; first | exact gLanes_spec (h.ext0 hwc.ext))))
  refine JL.call _ rfl rfl (fun w1 hw1 => laneFlush_spec (h.l.ext0 hw1.ext)) fun w1 r w2 hw1 ⟨zs, hO, hn, hz, hT⟩ => ?_
  have hs := hw1.ext.size
  have hE : ∀ {q : Nat}, GB g gb Ol q ∨ E q → q < w.heap.size := fun hq => h.lt hq
  refine GL.of_JL (C := Cls w2 No []) (Cls.start _ _) ?_
  repeat (first | (apply JL.y; (apply Y_assign; rfl); rfl) | refine JL.nil ?_)
  exact J.ret1 Try.func66 Try.results66 (RV.tm rfl) fun w' hw' => ⟨_, rfl, zs, (hO.ext0 hw'.ext).mono (fun q _ hq => ⟨hq.1, hE (.inr hq.1)⟩) (fun q hq hv => by have := hn q hv; omega), fun q hq => by have := hn q hq; omega, hz, (hT.pre hw1.ext).post hw'.ext⟩
/-- Take. -/
theorem gTake_spec (h : GObj w g gl gb Ol E k ms t rd seq) : Calls Try.prog 61 #[.pointer (some ⟨g, 0, none⟩)] w fun e w' => ∃ r, e = .returned r ∧ ∃ v, r = .tuple #[v, .bool (takeR (St.srt Msg.lane ms)).2.1] ∧ Foot (fun w => RMsg w v (takeR (St.srt Msg.lane ms)).1) w' (fun q => E q ∧ q < w.heap.size) ∧ LTo w w' gl Ol E (cl 1 3 k.lanes) (cl 1 8 k.depth) (takeR (St.srt Msg.lane ms)).2.2 := by
  refine Calls.of_G1 Try.func61 rfl Try.ntmps61 rfl ?_
  refine J.at (C := Cls w No []) ?_ (Cls.start _ _)
  repeat (first | (apply JL.y; (first | (apply Y_move; rfl) | (apply Y_assign; rfl)); rfl) | refine J.seq ?_ | refine J.region ?_ | refine JL.nil ?_ | (apply JL.callq; rfl; rfl; (intro wc hwc; first | exact gLanes_spec (h.ext0 hwc.ext))) | (apply JL.alloc; rfl; rfl; intro _))
  rename_i b2
  refine JL.call _ rfl rfl (fun w1 hw1 => laneTake_spec (h.l.ext0 hw1.ext)) fun w1 r w2 hw1 ⟨v, hr, hF, hT⟩ => ?_
  subst hr
  obtain ⟨ws, rfl, hFw, hl8, ho⟩ := RMsg.open_ hF
  have hs := hw1.ext.size
  have b2l : w.heap.size ≤ b2 := hw1.fresh fun _ h => h.elim
  have hlt : ∀ {q : Nat}, GB g gb Ol q ∨ E q → q < w.heap.size := fun hq => h.lt hq
  have hB2 := (hw1.has _ (.head _)).keep hT.1 fun h1 => by have := hlt (.inl (.inr (.inr h1))); simp only at this; omega
  have b2u := (hw1.has _ (.head _)).lt
  simp only at b2u
  refine GL.of_JL (C := Cls w2 (fun q => q = b2) [_]) (Cls.start1 hB2) ?_
  unfold msgC
  repeat (first | (apply JL.y; (first | (apply Y_assign; rfl) | (apply Y_extract; rfl; rfl)); rfl) | refine JL.nil ?_ | (apply JL.store; (apply St_W 0; rfl; rfl; rfl; exact inferInstance; rfl; rfl; (first | (focus (simp [Value.oneCell']; done)) | (simp [Value.oneCell']; assumption) | (simp [Value.oneCell']; exact ⟨by assumption, by assumption⟩)); (first | (focus (simp only [List.set_cons_zero]; done)) | (simp only [List.set_cons_zero]; rfl)))))
  refine J.ret2 Try.func61 Try.results61 (RV.W 0 rfl rfl rfl) (RV.tm rfl) fun w' hw' => ⟨_, rfl, _, rfl, ((RMsg.mk hFw hl8).ext hw'.ext fun q _ h1 h2 => by have := hlt (.inr h1.1); omega).mono fun q _ hq => ⟨hq.1, hlt (.inr hq.1)⟩, ?_⟩
  obtain ⟨h1, O', E', h2, h3, h4⟩ := hT
  refine ⟨(hw1.ext.no.trans h1).then hw'.ext fun q hq h => by omega, O', E', h2.ext hw'.ext fun q hq hb => ?_, fun q hq => (h3 q hq).imp id fun h => by omega, fun q hq => (h4 q hq).imp id fun h => by omega⟩
  subst hb
  rcases hq with hq | hq
  · rcases h3 _ hq with h5 | h5
    · have := hlt (.inl (.inr (.inr h5))); omega
    · omega
  · rcases h4 _ hq with h5 | h5
    · have := hlt (.inr h5); omega
    · omega
end
end Go.Proofs.Ytmkpbbdocndfbaa
