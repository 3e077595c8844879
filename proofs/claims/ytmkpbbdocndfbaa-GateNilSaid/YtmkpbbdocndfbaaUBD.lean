/- lane: the object, and what only reads it. -/
import Derived.Test.YtmkpbbdocndfbaaUBC
namespace Go.Proofs.Ytmkpbbdocndfbaa
open Go.RowKit Go.Proofs
attribute [local irreducible] Yl JL J G GL GA GQ DR

theorem Cls.start1 {x : Blk} {w : World} (h : BlkIn w x) : Cls w (fun k => k = x.b) [x] w := ⟨.refl _ _, by simpa using h, ⟨by simp, trivial⟩, by simp⟩
theorem BlkIn.foot {x : Blk} {w : World} (h : BlkIn w x) : Foot (fun w => BlkIn w x) w (fun k => k = x.b) := fun _ hw => (hw x.b rfl h.lt).trans h
theorem BlkIn.keep {x : Blk} {w w1 : World} {D : Nat → Prop} (h : BlkIn w x) (he : Ext D w w1) (hd : ¬ D x.b) : BlkIn w1 x := (he.block _ h.lt hd).trans h

/-- The document's numbers, from the words of the code. -/
def cl (lo hi x : Int) : Int := min (max x lo) hi

/-- Lanes at g: O what is written, E what is read only. -/
structure LObj (w : World) (g : Nat) (O E : Nat → Prop) (ln pl : Int) (ms : List Msg) : Prop where
  ex : ∃ sl zs, BlkIn w ⟨g, [.int .i64 ln, .int .i64 pl, sl], 139⟩ ∧ (∀ k, sl.ownBlock = some k → O k ∧ k ≠ g) ∧ Own 33 5 MsgC w E sl zs ∧ zs.map (·.2) = ms
  og : O g
  oe : ∀ k, O k → ¬ E k
  lt : ∀ k, O k ∨ E k → k < w.heap.size
  hln : 1 ≤ ln ∧ ln ≤ 3
  hpl : 1 ≤ pl ∧ pl ≤ 8
  wf : ∀ m ∈ ms, 0 ≤ m.lane ∧ m.lane < ln
  few : ∀ k : Int, ((ms.filter fun m => m.lane == k).length : Int) ≤ pl

theorem LObj.ext {w w1 : World} {g : Nat} {O E D : Nat → Prop} {ln pl : Int} {ms : List Msg} (h : LObj w g O E ln pl ms) (he : Ext D w w1) (hd : ∀ k, O k ∨ E k → ¬ D k) : LObj w1 g O E ln pl ms := by
  obtain ⟨sl, zs, hb, ho, hw, hz⟩ := h.ex
  exact ⟨⟨sl, zs, hb.keep he (hd g (.inl h.og)), ho, hw.ext he (fun k hk => hd k (.inl (ho k hk).1)) (fun k _ hk => hd k (.inr hk)), hz⟩, h.og, h.oe, fun k hk => Nat.lt_of_lt_of_le (h.lt k hk) he.size, h.hln, h.hpl, h.wf, h.few⟩
theorem LObj.ext0 {w w1 : World} {g : Nat} {O E : Nat → Prop} {ln pl : Int} {ms : List Msg} (h : LObj w g O E ln pl ms) (he : Ext No w w1) : LObj w1 g O E ln pl ms := h.ext he fun _ _ h => h
theorem filt_len {τ : Type} (p : τ → Bool) : ∀ l : List τ, l.length = (l.filter p).length + (l.filter fun x => !p x).length
  | [] => rfl
  | x :: r => by
    have := filt_len p r
    cases h : p x <;> simp [h] <;> omega
/-- There are at most 24. -/
theorem few_len : ∀ (n : Nat) (ms : List Msg) (pl : Int), (∀ m ∈ ms, 0 ≤ m.lane ∧ m.lane < n) → (∀ k : Int, ((ms.filter fun m => m.lane == k).length : Int) ≤ pl) → (ms.length : Int) ≤ n * pl := by
  intro n
  induction n with
  | zero => intro ms pl h _; cases ms with
    | nil => simp
    | cons m ms => have := h m (.head _); simp at this; omega
  | succ n ih =>
    intro ms pl h1 h2
    have h3 := ih (ms.filter fun m => !(m.lane == (n : Int))) pl (fun m hm => by
      have := h1 m (List.mem_filter.1 hm).1
      have h4 := (List.mem_filter.1 hm).2
      simp at h4; omega) (fun k => Int.le_trans (by
      have : ((ms.filter fun m => !(m.lane == (n : Int))).filter fun m => m.lane == k).length ≤ (ms.filter fun m => m.lane == k).length := (List.filter_sublist.filter _).length_le
      omega) (h2 k))
    have h4 := h2 n
    have h5 : ms.length = (ms.filter fun m => m.lane == (n : Int)).length + (ms.filter fun m => !(m.lane == (n : Int))).length := filt_len (fun m : Msg => m.lane == (n : Int)) ms
    have h6 : ((n + 1 : Nat) : Int) * pl = n * pl + pl := by rw [Int.natCast_add, Int.add_mul]; simp
    omega
theorem LObj.len {w : World} {g : Nat} {O E : Nat → Prop} {ln pl : Int} {ms : List Msg} (h : LObj w g O E ln pl ms) : ms.length ≤ 24 := by
  have h1 := few_len 3 ms pl (fun m hm => by have := h.wf m hm; have := h.hln; omega) h.few
  have h2 := h.hpl
  omega

/-- lane.New. -/
theorem laneNew_spec {w : World} {ln pl : Int} : Calls Try.prog 25 #[.int .i64 ln, .int .i64 pl] w fun e w' => ∃ r, e = .returned r ∧ ∃ g, r = .pointer (some ⟨g, 0, none⟩) ∧ Ext No w w' ∧ w.heap.size ≤ g ∧ LObj w' g (fun k => k = g) No (cl 1 3 ln) (cl 1 8 pl) [] := by
  refine Calls.of_G2 Try.func25 rfl Try.ntmps25 rfl ?_
  refine J.at (C := Cls w No []) ?_ (Cls.start _ _)
  repeat (first | (apply JL.y; (first | (apply Y_move; rfl) | (apply Y_assign; rfl) | (apply Y_min; rfl; rfl) | (apply Y_max; rfl; rfl) | (apply Y_build; rfl; exact inferInstance)); rfl) | refine J.seq ?_ | refine J.region ?_ | refine JL.nil ?_ | (apply JL.box; rfl; rfl; rfl; intro _))
  refine J.ret1 Try.func25 Try.results25 (RV.tm rfl) fun w' hw => ?_
  have hb := hw.has _ (.head _)
  refine ⟨_, rfl, _, rfl, hw.ext, (hw.mine _ (.head _)).resolve_left id, ⟨⟨_, [], hb, by simp [Value.ownBlock], Own.nil _ _ _ _ _, rfl⟩, rfl, fun _ _ h => h, fun k hk => ?_, ?_, ?_, by simp, ?_⟩⟩
  · rcases hk with rfl | hk
    · exact hb.lt
    · exact hk.elim
  · unfold cl; omega
  · unfold cl; omega
  · intro k; simp [cl]; omega
/-- lane.Len. -/
theorem laneLen_spec {w : World} {g : Nat} {O E : Nat → Prop} {ln pl : Int} {ms : List Msg} (h : LObj w g O E ln pl ms) : Calls Try.prog 40 #[.pointer (some ⟨g, 0, none⟩)] w fun e w' => e = .returned (.int .i64 ms.length) ∧ Ext No w w' := by
  obtain ⟨sl, zs, hb, ho, hw, rfl⟩ := h.ex
  obtain ⟨A, c, rfl, hc, hm⟩ := hw.slice
  have hl : Foot (Lds Try.prog 26 ⟨g, 2, none⟩ (.slice A zs.length c)) w (fun k => k = g) := hb.foot.imp fun w hb => Lds.one hb rfl
  refine Calls.of_G1 Try.func40 rfl Try.ntmps40 rfl ?_
  refine J.at (C := Cls w No []) ?_ (Cls.start _ _)
  repeat (first | (apply JL.y; (first | (apply Y_move; rfl) | (apply Y_assign; rfl) | (apply Y_pnil_f; rfl)); rfl) | refine J.seq ?_ | refine J.region ?_ | refine JL.nil ?_)
  apply J.cond_f rfl
  repeat (first | (apply JL.y; (first | (apply Y_move; rfl) | (apply Y_assign; rfl) | (apply Y_fieldAddr; rfl; rfl) | (apply Y_loadP; rfl; (intro wc hwc; first | exact hl.at_ hwc.ext fun _ _ _ h => h)) | (apply Y_nilCheck; rfl) | (apply Y_len; rfl)); rfl) | refine J.seq ?_ | refine J.region ?_ | refine JL.nil ?_ | refine J.skip ?_)
  exact J.ret1 Try.func40 Try.results40 (RV.tm rfl) fun w' hw' => ⟨by simp, hw'.ext⟩
/-- lane.is. -/
theorem laneIs_spec {w : World} {g : Nat} {O E : Nat → Prop} {ln pl : Int} {ms : List Msg} (h : LObj w g O E ln pl ms) (q : Int) : Calls Try.prog 104 #[.pointer (some ⟨g, 0, none⟩), .int .i64 q] w fun e w' => e = .returned (.bool (decide (0 ≤ q ∧ q < ln))) ∧ Ext No w w' := by
  obtain ⟨sl, zs, hb, ho, hw, rfl⟩ := h.ex
  have hl : Foot (Lds Try.prog 3 ⟨g, 0, none⟩ (.int .i64 ln)) w (fun k => k = g) := hb.foot.imp fun w hb => Lds.one hb rfl
  refine Calls.of_G2 Try.func104 rfl Try.ntmps104 rfl ?_
  refine J.at (C := Cls w No []) ?_ (Cls.start _ _)
  repeat (first | (apply JL.y; (first | (apply Y_move; rfl) | (apply Y_assign; rfl) | (apply Y_geq; rfl; rfl) | (apply Y_pnn_f; rfl) | (apply Y_pick_t; rfl; rfl)); rfl) | refine J.seq ?_ | refine J.region ?_ | refine JL.nil ?_ | (apply JL.guard_yes; rfl; rfl; rfl))
  by_cases h0 : 0 ≤ q
  · rw [decide_eq_true h0]
    repeat (first | (apply JL.y; (first | (apply Y_move; rfl) | (apply Y_assign; rfl) | (apply Y_fieldAddr; rfl; rfl) | (apply Y_loadP; rfl; (intro wc hwc; first | exact hl.at_ hwc.ext fun _ _ _ h => h)) | (apply Y_nilCheck; rfl) | (apply Y_lss; rfl; rfl) | (apply Y_pick_t; rfl; rfl)); rfl) | refine JL.nil ?_ | (apply JL.guard_yes; rfl; rfl; rfl))
    exact J.ret1 Try.func104 Try.results104 (RV.tm rfl) fun w' hw' => ⟨ret_bool (by simp [h0]), hw'.ext⟩
  · rw [decide_eq_false h0]
    repeat (first | (apply JL.y; (first | (apply Y_assign; rfl) | (apply Y_pick_f; rfl; rfl)); rfl) | refine JL.nil ?_ | (apply JL.guard_no; rfl; rfl; rfl; rfl; rfl))
    exact J.ret1 Try.func104 Try.results104 (RV.tm rfl) fun w' hw' => ⟨ret_bool (by simp [h0]), hw'.ext⟩
theorem srt_snd (zs : List (List Value × Msg)) : (St.srt skey zs).map (·.2) = St.srt Msg.lane (zs.map (·.2)) := St.srt_map (key := Msg.lane) (fun z : List Value × Msg => z.2) zs
/-- lane.All. -/
theorem laneAllN_spec {w : World} {g : Nat} {O E : Nat → Prop} {ln pl : Int} {ms : List Msg} (h : LObj w g O E ln pl ms) : Calls Try.prog 41 #[.pointer (some ⟨g, 0, none⟩)] w fun e w' => ∃ r, e = .returned r ∧ Ext No w w' ∧ ∃ zs, New 33 5 MsgN w w' r zs ∧ zs.map (·.2) = St.srt Msg.lane ms := by
  have hlen := h.len
  obtain ⟨sl, zs, hb, ho, hw, rfl⟩ := h.ex
  have hzl : zs.length ≤ 24 := by simpa using hlen
  have hl : Foot (Lds Try.prog 26 ⟨g, 2, none⟩ sl) w (fun k => k = g) := hb.foot.imp fun w hb => Lds.one hb rfl
  refine Calls.of_G1 Try.func41 rfl Try.ntmps41 rfl ?_
  refine J.at (C := Cls w No []) ?_ (Cls.start _ _)
  repeat (first | (apply JL.y; (first | (apply Y_move; rfl) | (apply Y_assign; rfl) | (apply Y_pnil_f; rfl)); rfl) | refine J.seq ?_ | refine J.region ?_ | refine JL.nil ?_)
  apply J.cond_f rfl
  repeat (first | (apply JL.y; (first | (apply Y_move; rfl) | (apply Y_fieldAddr; rfl; rfl) | (apply Y_loadP; rfl; (intro wc hwc; first | exact hl.at_ hwc.ext fun _ _ _ h => h)) | (apply Y_nilCheck; rfl)); rfl) | refine J.seq ?_ | refine J.region ?_ | refine J.skip ?_)
  refine JL.call _ rfl rfl (fun w1 hw1 => sorted_spec (hw.reads.ext0 hw1.ext) (by omega) keyAll) fun w1 r w2 hw1 ⟨hE, hO, hg⟩ => ?_
  refine GL.of_JL (C := Cls w2 No []) (Cls.start _ _) ?_
  skip
  refine JL.call _ rfl rfl (fun w3 hw3 => clonesN_spec (hO.reads.ext0 hw3.ext) (by rw [St.srt_len]; omega)) fun w3 r w4 hw3 ⟨hE4, zs4, hN, hz⟩ => ?_
  refine GL.of_JL (C := Cls w4 No []) (Cls.start _ _) ?_
  repeat (first | (apply JL.y; (apply Y_assign; rfl); rfl) | refine JL.nil ?_)
  have hE3 := (hw1.ext.trans hE).trans hw3.ext
  exact J.ret1 Try.func41 Try.results41 (RV.tm rfl) fun w' hw' => ⟨_, rfl, (hE3.trans hE4).trans hw'.ext, zs4, (hN.ext0 hw'.ext).elder hE3.size, by rw [hz, srt_snd]⟩
theorem laneAll_spec {w : World} {g : Nat} {O E : Nat → Prop} {ln pl : Int} {ms : List Msg} (h : LObj w g O E ln pl ms) : Calls Try.prog 41 #[.pointer (some ⟨g, 0, none⟩)] w fun e w' => ∃ r, e = .returned r ∧ Ext No w w' ∧ ∃ zs, New 33 5 MsgC w w' r zs ∧ zs.map (·.2) = St.srt Msg.lane ms :=
  (laneAllN_spec h).mono fun _ _ ⟨r, h1, h2, zs, h3, h4⟩ => ⟨r, h1, h2, zs, h3.imp fun _ _ _ h => h.c, h4⟩
end Go.Proofs.Ytmkpbbdocndfbaa
/- slices.DeleteFunc of messages: those of other lanes go. -/
namespace Go.Proofs.Ytmkpbbdocndfbaa
open Go.RowKit Go.Proofs

section
variable {P : Program} {f n : Nat} {R : Ending → World → Prop} {k : List Item} {e : Env} {C C' : World → Prop} {ops : Array Oper} {rest : List Oper} {ty t : TypeId} {pos : String} {aft : Array Edge} {x y : Operand}
/-- A store through a pointer. -/
theorem JL.storeP {p : Addr} {v : Value} (hx : opv e x = some (.pointer (some p))) (hy : opv e y = some v) (h : ∀ w, C w → ∃ w', (storeVar t p v).run P w = .ok () w' ∧ C' w')
    (hk : JL P f n R C' ops rest k e) : JL P f n R C ops (⟨none, .store t x y, ty, pos, aft, none⟩ :: rest) k e :=
  JL.st (fun a w ha hw => by
    obtain ⟨w', h1, h2⟩ := h w hw
    exact ⟨w', by simp [execOp, Instr.storeAt, Instr.sureAddr, ha.eval hx, ha.eval hy, h1], h2⟩) hk
/-- A built-in whose result nobody takes. -/
theorem JL.clear {v u : Value} (hx : opv e x = some v) (h : ∀ w, C w → ∃ w', (∀ ty, (Builtin.clear_ #[t] ty #[v]).run P w = .ok u w') ∧ C' w')
    (hk : JL P f n R C' ops rest k e) : JL P f n R C ops (⟨none, .call { callee := .builtin .clear, args := #[x], argTypes := #[t] }, ty, pos, aft, none⟩ :: rest) k e := by
  intro w hw a ha
  obtain ⟨w', h1, h2⟩ := h w hw
  exact wpList_val (v := u) rfl (by simp [execOp, resolve, invoke, builtin, ha.eval hx, h1]) (hk w' h2 _ (ha.put0 _))
end

attribute [local irreducible] Yl JL J G GL GA GQ DR
theorem zeroCells_spec (zc : List Value) (n : Nat) (h : ∀ u ∈ zc, u.oneCell' = true) : (Builtin.zeroCells zc.toArray n).toList.length = n * zc.length ∧ ∀ u ∈ (Builtin.zeroCells zc.toArray n).toList, u.oneCell' = true := by
  refine ⟨by simp [Builtin.zeroCells], fun u hu => ?_⟩
  simp only [Builtin.zeroCells, Array.toList_map, List.mem_map, Array.toList_range, List.mem_range, List.size_toArray] at hu
  obtain ⟨i, hi, rfl⟩ := hu
  have hz : 0 < zc.length := by
    rcases Nat.eq_zero_or_pos zc.length with h0 | h0
    · rw [h0] at hi; omega
    · exact h0
  have hl : i % zc.length < zc.length := Nat.mod_lt _ hz
  rw [getElem!_pos zc.toArray (i % zc.length) (by simpa using hl)]
  exact h _ (by simp)
/-- What lies behind element i is cleared. -/
theorem run_clear_row {P : Program} {t elt : TypeId} {sz e g m c i : Nat} {zc : List Value} {w : World} {chs : List (List Value)} [hs : SI P t elt sz] [hz : TI P elt true sz (.agg zc.toArray)] (hzl : zc.length = sz) (hz1 : ∀ u ∈ zc, u.oneCell' = true) (h : Row w e sz (.slice (some ⟨g, 0, none⟩) m c) chs) (hi : i ≤ m) :
    ∃ w', (∀ ty, (Builtin.clear_ #[t] ty #[.slice (cutA (some ⟨g, 0, none⟩) c i sz) (m - i) (c - i)]).run P w = .ok (.tuple #[]) w') ∧ Row w' e sz (.slice (some ⟨g, 0, none⟩) i c) (chs.take i) ∧ Ext (fun k => k = g) w w' := by
  have hm : m = chs.length := by obtain ⟨_, _, hv, _⟩ := h.slice; cases hv; rfl
  by_cases hmi : m - i = 0
  · refine ⟨w, fun ty => ?_, h.take rfl (by omega), .refl _ _⟩
    rw [hmi]
    unfold cutA
    split <;> simp [Builtin.clear_, run_underlying hs.und]
  obtain ⟨g', cap, cur, hv, hb, hc1, hc2, hcs, htk⟩ := h.block (by omega)
  cases hv
  obtain ⟨n, hn⟩ : ∃ n, chs.length - i = n + 1 := ⟨chs.length - i - 1, by omega⟩
  obtain ⟨hl, ho⟩ := zeroCells_spec zc (n + 1) hz1
  have hbound : i * sz + (n + 1) * sz ≤ c * sz := by rw [← Nat.add_mul]; exact Nat.mul_le_mul_right _ (by omega)
  have hst := run_storeCells_at P g (i * sz) e (Builtin.zeroCells zc.toArray (n + 1)).toList 0 cur w hb (by rw [hl, hzl, hcs]; omega) ho
  refine ⟨w.setRow g (cur.toList.take (i * sz + 0) ++ (Builtin.zeroCells zc.toArray (n + 1)).toList ++ cur.toList.drop (i * sz + 0 + (Builtin.zeroCells zc.toArray (n + 1)).toList.length)).toArray, fun ty => ?_, ?_, Ext.setRow w g _ rfl⟩
  · rw [hn]
    unfold cutA
    rw [if_neg (by omega)]
    simp only [Option.map_some, add_lit, Nat.zero_add]
    simp [Builtin.clear_, run_underlying hs.und, hz.zero, Value.cells, hst]
  · rw [hl, hzl]
    have hT := h.take rfl (i := i) (by omega)
    refine ⟨hT.1, hT.2.1, .inr ⟨g, c, _, by rw [List.length_take, Nat.min_eq_left (by omega)], Nat.zero_le _, setRow_heap w g cur _ e _ hb, by rw [List.length_take]; omega, hc2, ?_, ?_⟩⟩
    · simp only [List.size_toArray, List.length_append, List.length_take, List.length_drop, Array.length_toList, hl, hzl, hcs, Nat.add_zero]; omega
    · rw [List.length_take, Nat.min_eq_left (by omega), ← flatten_take chs sz i h.1, ← htk]
      have hle : i * sz ≤ chs.length * sz := Nat.mul_le_mul_right _ (by omega)
      have hle2 : chs.length * sz ≤ c * sz := Nat.mul_le_mul_right _ (by omega)
      rw [List.append_assoc, List.take_append, List.take_take, Nat.min_eq_left (by omega), List.take_take, Nat.min_eq_left (by omega)]
      simp only [Nat.add_zero, List.length_take, Array.length_toList, hcs]
      rw [Nat.min_eq_left (by omega), Nat.sub_self, List.take_zero, List.append_nil]

def LaneAt (lb : Nat) (q : Int) (w : World) : Prop := BlkIn w ⟨lb, [.int .i64 q], 3⟩
/-- The closure that lane.Of hands over. -/
theorem ofC_spec {w : World} {lb : Nat} {q : Int} (hk : LaneAt lb q w) (ws : Value) (m : Msg) :
    Calls Try.prog 114 #[.agg (msgC ws m).toArray, .pointer (some ⟨lb, 0, none⟩)] w fun e w' => e = .returned (.bool (decide (m.lane ≠ q))) ∧ Ext No w w' := by
  have hl : Foot (Lds Try.prog 3 ⟨lb, 0, none⟩ (.int .i64 q)) w (fun k => k = lb) := (BlkIn.foot hk).imp fun w hb => Lds.one hb rfl
  refine Calls.of_G2 Try.func114 rfl Try.ntmps114 rfl ?_
  refine J.at (C := Cls w No []) ?_ (Cls.start _ _)
  unfold msgC
  repeat (first | (apply JL.y; (first | (apply Y_assign; rfl) | (apply Y_fieldAddr; rfl; rfl) | (apply Y_load1 0; rfl; rfl; rfl; exact inferInstance) | (apply Y_loadP; rfl; (intro wc hwc; first | exact hl.at_ hwc.ext fun _ _ _ h => h)) | (apply Y_neq; rfl; rfl)); rfl) | refine J.seq ?_ | refine J.region ?_ | refine JL.nil ?_ | (apply JL.box; rfl; rfl; rfl; intro _))
  exact J.ret1 Try.func114 Try.results114 (RV.tm rfl) fun w' hw' => ⟨rfl, hw'.ext⟩
abbrev ofV (lb : Nat) : Value := .func (.func 114) #[] #[.pointer (some ⟨lb, 0, none⟩)]

set_option maxHeartbeats 1000000 in
/-- slices.IndexFunc of messages. -/
theorem indexMsg_spec {w : World} {lb : Nat} {q : Int} {v : Value} {ts : List (Value × Msg)} (hrow : MRow w v ts) (hn : ts.length ≤ 1000000) (hone : Ones ts) (hk : LaneAt lb q w) :
    Calls Try.prog 147 #[v, ofV lb] w fun e w' => ∃ r, e = .returned r ∧ Ext No w w' ∧ ∃ i : Int, r = .int .i64 i ∧ ((i = -1 ∧ ∀ p ∈ ts, p.2.lane = q) ∨ (∃ j : Nat, i = j ∧ j < ts.length ∧ (∀ p ∈ ts.take j, p.2.lane = q) ∧ ∀ p, ts[j]? = some p → p.2.lane ≠ q)) := by
  obtain ⟨A, c, rfl, hc, hm⟩ := Row.slice hrow
  rw [List.length_map] at hrow hc ⊢
  refine Calls.of_G2 Try.func147 rfl Try.ntmps147 rfl ?_
  refine J.at (C := Cls w No []) ?_ (Cls.start _ _)
  repeat (first | (apply JL.y; (first | (apply Y_move; rfl) | (apply Y_assign; rfl) | (apply Y_len; rfl)); rfl) | refine J.seq ?_ | refine J.region ?_ | refine JL.nil ?_ | refine J.block ?_)
  refine J.intro fun wl hwl => G.loop (Inv := fun mm e wl => ∃ (j : Nat), j ≤ ts.length ∧ mm = ts.length - j ∧ (∀ p ∈ ts.take j, p.2.lane = q) ∧ Ext No w wl ∧ e = [(0, .slice A ts.length c), (1, ofV lb), (7, .int .i64 ts.length), (8, .int .i64 j)])
    _ _ ⟨0, Nat.zero_le _, rfl, by simp, hwl.ext, rfl⟩ ⟨rfl, rfl, rfl, rfl, trivial⟩ ?_
  rintro mm e w1 ⟨j, hj, rfl, hlo, hE, rfl⟩ ih
  refine J.at (C := Cls w1 No []) ?_ (Cls.start _ _)
  repeat (first | (apply JL.y; (apply Y_lss; rfl; rfl); rfl) | refine J.seq ?_ | refine J.region ?_ | refine JL.nil ?_)
  refine J.cond_d rfl (fun hlt => ?_) (fun hlt => ?_)
  case refine_2 =>
    repeat (first | (apply JL.y; (apply Y_assign; rfl); rfl) | refine J.seq ?_ | refine J.region ?_ | refine JL.nil ?_ | (apply J.exit; rfl))
    exact J.ret1 Try.func147 Try.results147 (RV.tm rfl) fun w' hw => ⟨_, rfl, hE.trans hw.ext, _, rfl, .inl ⟨rfl, by rw [List.take_of_length_le (by omega)] at hlo; exact hlo⟩⟩
  have hjl : j < ts.length := by omega
  obtain ⟨p, hp⟩ : ∃ p, ts[j]? = some p := ⟨_, List.getElem?_eq_getElem hjl⟩
  obtain ⟨g, hA⟩ := hrow.ad (by omega)
  subst hA
  have hop : p.1.oneCell' = true := hone p (List.mem_of_getElem? hp)
  have lp := (hrow.lds hp rfl).ext0 hE
  repeat (first | (apply JL.y; (first | (apply Y_move; rfl) | (apply Y_assign; rfl)); rfl) | refine J.seq ?_ | refine J.region ?_ | refine JL.nil ?_ | refine J.skip ?_ | refine J.block ?_)
  apply JL.y (Y_indexAddr rfl rfl (by omega)) rfl
  apply JL.y (Y_loadP rfl fun w hw => lp.at_ hw.ext fun _ _ _ h => h) rfl
  repeat (first | refine JL.nil ?_ | (apply JL.callqC; rfl; exact inferInstance; rfl; rfl; (intro wc hwc; first | exact ofC_spec (BlkIn.ext0 (BlkIn.ext0 hk hE) hwc.ext) _ _)))
  refine J.cond_d rfl (fun hne => ?_) (fun hne => ?_)
  · repeat (first | (apply JL.y; (first | (apply Y_move; rfl) | (apply Y_assign; rfl)); rfl) | refine J.seq ?_ | refine J.region ?_ | refine JL.nil ?_)
    exact J.ret1 Try.func147 Try.results147 (RV.tm rfl) fun w' hw => ⟨_, rfl, hE.trans hw.ext, _, rfl, .inr ⟨j, rfl, hjl, hlo, fun p' hp' => by rw [hp] at hp'; cases hp'; exact hne⟩⟩
  · repeat (first | (apply JL.y; (first | (apply Y_move; rfl) | (apply Y_add; rfl; rfl; omega)); rfl) | refine J.region ?_ | refine JL.nil ?_ | refine J.skip ?_ | refine J.inBlock ?_)
    refine J.intro fun w2 hw2 => ih (ts.length - (j + 1)) (by omega) _ _ w2 ?_ ⟨j + 1, hjl, rfl, fun p' hp' => ?_, hE.trans hw2.ext, rfl⟩
    · exact ⟨rfl, rfl, rfl, rfl, trivial⟩
    · rw [take_snoc hp] at hp'
      rcases List.mem_append.1 hp' with hp' | hp'
      · exact hlo p' hp'
      · simp at hp'; subst hp'; exact Classical.not_not.1 hne

def keepq (q : Int) (p : Value × Msg) : Bool := decide (p.2.lane = q)
set_option maxHeartbeats 2000000 in
/-- slices.DeleteFunc of messages. -/
theorem deleteMsg_spec {w : World} {lb : Nat} {q : Int} {v : Value} {ts : List (Value × Msg)} (hrow : MRow w v ts) (hn : ts.length ≤ 1000000) (hone : Ones ts) (hk : LaneAt lb q w) (hlb : v.ownBlock ≠ some lb) :
    Calls Try.prog 113 #[v, ofV lb] w fun e w' => ∃ r, e = .returned r ∧ Ext (fun k => v.ownBlock = some k) w w' ∧ MRow w' r (ts.filter (keepq q)) ∧ r.ownBlock = v.ownBlock := by
  obtain ⟨A, c, rfl, hc, hm⟩ := Row.slice hrow
  rw [List.length_map] at hrow hc hlb ⊢
  refine Calls.of_G2 Try.func113 rfl Try.ntmps113 rfl ?_
  refine J.at (C := Cls w No []) ?_ (Cls.start _ _)
  repeat (first | (apply JL.y; (first | (apply Y_move; rfl) | (apply Y_assign; rfl)); rfl) | refine J.seq ?_ | refine J.region ?_ | refine JL.nil ?_)
  refine JL.call _ rfl rfl (fun w1 hw1 => indexMsg_spec (hrow.ext0 hw1.ext) hn hone (BlkIn.ext0 hk hw1.ext)) fun w1 r w2 hw1 ⟨hE, i, hr, hi⟩ => ?_
  subst hr
  refine GL.of_JL (C := Cls w2 No []) (Cls.start _ _) ?_
  have hE2 := hw1.ext.trans hE
  repeat (first | (apply JL.y; (first | (apply Y_move; rfl) | (apply Y_assign; rfl) | (apply Y_eql; rfl; rfl)); rfl) | refine J.seq ?_ | refine J.region ?_ | refine JL.nil ?_)
  rcases hi with ⟨rfl, hall⟩ | ⟨j, rfl, hjl, hlo, hne⟩
  · refine J.cond_d rfl (fun h => ?_) (fun h => absurd rfl h)
    repeat (first | (apply JL.y; (first | (apply Y_move; rfl) | (apply Y_assign; rfl)); rfl) | refine J.seq ?_ | refine J.region ?_ | refine JL.nil ?_)
    exact J.ret1 Try.func113 Try.results113 (RV.tm rfl) fun w' hw => ⟨_, rfl, (hE2.trans hw.ext).no, ((hrow.ext0 hE2).ext0 hw.ext).eq (List.filter_eq_self.2 fun p hp => by simp [keepq, hall p hp]).symm, rfl⟩
  refine J.cond_d rfl (fun h => by exfalso; omega) (fun h => ?_)
  obtain ⟨g, hA⟩ := hrow.ad (by omega)
  subst hA
  have hlg : lb ≠ g := fun h => hlb (by rw [h]; rfl)
  obtain ⟨p0, hp0⟩ : ∃ p, ts[j]? = some p := ⟨_, List.getElem?_eq_getElem hjl⟩
  have hk0 : ts.take j = (ts.take j).filter (keepq q) := (List.filter_eq_self.2 fun p hp => by simp [keepq, hlo p hp]).symm
  have hf1 : (ts.take (j + 1)).filter (keepq q) = ts.take j := by
    rw [take_snoc hp0, List.filter_append, ← hk0]
    simp [keepq, hne p0 hp0]
  have htl : (ts.take j).length = j := by rw [List.length_take]; omega
  repeat (first | (apply JL.y; (first | (apply Y_move; rfl) | (apply Y_assign; rfl) | (apply Y_add; rfl; rfl; omega)); rfl) | refine J.seq ?_ | refine J.region ?_ | refine JL.nil ?_ | refine J.skip ?_ | refine J.block ?_)
  refine J.intro fun wl hwl => G.loop (Inv := fun mm e wl => ∃ (t : Nat) (K X : List (Value × Msg)) (i j : Int), t ≤ ts.length ∧ mm = ts.length - t ∧ j = t ∧ i = K.length ∧ K = (ts.take t).filter (keepq q) ∧ K.length + X.length = t ∧ 0 < X.length ∧ Ones X ∧ Ext (fun k => k = g) w wl ∧ MRow wl (.slice (some ⟨g, 0, none⟩) ts.length c) (K ++ X ++ ts.drop t) ∧ e = [(0, .slice (some ⟨g, 0, none⟩) ts.length c), (1, ofV lb), (5, .int .i64 i), (6, .int .i64 j)])
    _ _ ⟨j + 1, ts.take j, [p0], j, j + 1, hjl, rfl, by omega, by omega, hf1.symm, by simp; omega, by simp, fun p hp => by simp at hp; subst hp; exact hone _ (List.mem_of_getElem? hp0), (hE2.trans hwl.ext).no, ((hrow.ext0 hE2).ext0 hwl.ext).eq ?_, rfl⟩ ⟨rfl, rfl, rfl, rfl, trivial⟩ ?_
  · rw [← take_snoc hp0, List.take_append_drop]
  rintro mm e w1 ⟨t, K, X, i, j, ht, rfl, hj, hi, hK, hKX, hX, hoX, hE3, hR, rfl⟩ ih
  refine J.at (C := Cls w1 No []) ?_ (Cls.start _ _)
  repeat (first | (apply JL.y; (first | (apply Y_move; rfl) | (apply Y_len; rfl) | (apply Y_lss; rfl; rfl)); rfl) | refine J.seq ?_ | refine J.region ?_ | refine JL.nil ?_)
  refine J.cond_d rfl (fun hlt => ?_) (fun hlt => ?_)
  case refine_2 =>
    have htt : t = ts.length := by omega
    subst htt
    repeat (first | (apply JL.y; (apply Y_move; rfl); rfl) | refine J.seq ?_ | refine J.region ?_ | (apply J.exit; rfl))
    apply JL.y (Y_slice_l rfl rfl (by omega)) rfl
    apply JL.clear (C' := fun w' => MRow w' (.slice (some ⟨g, 0, none⟩) i.toNat c) K ∧ Ext (fun k => k = g) w1 w') (u := .tuple #[])
    · rfl
    · intro w5 hw5
      obtain ⟨w6, h1, h2, h3⟩ := run_clear_row (P := Try.prog) (t := 26) (zc := [.slice none 0 0, .int .i64 0, .int .i64 0, .int .i64 0, .int .i64 0]) (i := i.toNat) rfl (by simp [Value.oneCell']) (hR.ext0 hw5.ext) (by omega)
      refine ⟨w6, h1, ?_, hw5.ext.no.trans h3⟩
      unfold MRow
      rw [← List.map_take] at h2
      have : (K ++ X ++ ts.drop ts.length).take i.toNat = K := by
        rw [show i.toNat = K.length by omega, List.append_assoc, List.take_left]
      rw [this] at h2
      exact h2
    refine JL.intro fun w5 ⟨hR5, hE5⟩ => ?_
    refine GL.of_JL (C := Cls w5 No []) (Cls.start _ _) ?_
    repeat (first | (apply JL.y; (apply Y_move; rfl); rfl) | refine J.seq ?_ | refine J.region ?_ | refine JL.nil ?_)
    apply JL.y (Y_slice_h rfl rfl (by omega)) rfl
    repeat (first | (apply JL.y; (apply Y_assign; rfl); rfl) | refine JL.nil ?_)
    refine J.ret1 Try.func113 Try.results113 (RV.tm rfl) fun w' hw => ⟨_, rfl, ((hE3.trans hE5).trans hw.ext.no).mono fun k _ hk => by simp [Value.ownBlock]; exact hk.symm, (hR5.ext0 hw.ext).eq (by rw [hK, List.take_length]), rfl⟩
  obtain ⟨p, hp⟩ : ∃ p, ts[t]? = some p := ⟨_, List.getElem?_eq_getElem (by omega)⟩
  have hop : p.1.oneCell' = true := hone p (List.mem_of_getElem? hp)
  have hdrop : ts.drop t = p :: ts.drop (t + 1) := by
    rw [List.drop_eq_getElem_cons (by omega)]
    rw [List.getElem?_eq_getElem (by omega)] at hp
    cases hp; rfl
  rw [hdrop] at hR
  have hKXl : (K ++ X).length = t := by simp; omega
  have lp := hR.lds (far_1 (K ++ X) p (ts.drop (t + 1)) rfl) (q := j.toNat * 5) (by omega)
  repeat (first | (apply JL.y; (apply Y_move; rfl); rfl) | refine J.seq ?_ | refine J.region ?_ | refine J.skip ?_ | refine J.block ?_)
  apply JL.y (Y_indexAddr rfl rfl (by omega)) rfl
  apply JL.y (Y_loadP rfl fun w hw => lp.at_ hw.ext fun _ _ _ h => h) rfl
  have hk3 : LaneAt lb q w1 := BlkIn.keep hk hE3 hlg
  unfold msgC
  repeat (first | (apply JL.y; (first | (apply Y_move; rfl) | (apply Y_loadW 0; rfl; rfl; exact inferInstance; rfl) | (apply Y_not_d; rfl)); rfl) | refine J.seq ?_ | refine J.region ?_ | refine JL.nil ?_ | (apply JL.callqC; rfl; exact inferInstance; rfl; rfl; (intro wc hwc; first | exact ofC_spec (BlkIn.ext0 hk3 hwc.ext) _ _)) | (apply JL.alloc; rfl; rfl; intro _) | (apply JL.store; (apply St_W 0; rfl; rfl; rfl; exact inferInstance; rfl; rfl; (first | (focus (simp [Value.oneCell']; done)) | (simp [Value.oneCell']; assumption) | (simp [Value.oneCell']; exact ⟨by assumption, by assumption⟩)); (first | (focus (simp only [List.set_cons_zero]; done)) | (simp only [List.set_cons_zero]; rfl)))))
  refine J.cond_d rfl (fun hq => ?_) (fun hq => ?_)
  · have hq' : p.2.lane = q := Classical.not_not.1 hq
    obtain ⟨x, X', rfl⟩ : ∃ x X', X = x :: X' := by
      cases X with
      | nil => simp at hX
      | cons x X => exact ⟨x, X, rfl⟩
    have hR' := hR.eq (ts' := K ++ x :: (X' ++ p :: ts.drop (t + 1))) (by simp)
    repeat (first | (apply JL.y; (first | (apply Y_move; rfl) | (apply Y_loadW 0; rfl; rfl; exact inferInstance; rfl)); rfl) | refine J.seq ?_ | refine J.region ?_)
    apply JL.y (Y_indexAddr rfl rfl (by simp at hKXl; omega)) rfl
    apply JL.storeP (C' := fun w' => MRow w' (.slice (some ⟨g, 0, none⟩) ts.length c) ((K ++ x :: (X' ++ p :: ts.drop (t + 1))).set K.length p) ∧ Ext (fun k => k = g) w1 w') rfl rfl
    · intro w5 hw5
      obtain ⟨w6, h1, h2, h3⟩ := MRow.set (hR'.ext0 hw5.ext) (i := K.length) (p := p) (q := i.toNat * 5) (by simp) hop (by omega)
      exact ⟨w6, h1, h2, hw5.ext.no.trans h3⟩
    refine JL.intro fun w5 ⟨hR5, hE5⟩ => ?_
    refine GL.of_JL (C := Cls w5 No []) (Cls.start _ _) ?_
    repeat (first | (apply JL.y; (first | (apply Y_move; rfl) | (apply Y_assign; rfl) | (apply Y_add; rfl; rfl; omega)); rfl) | refine J.region ?_ | refine JL.nil ?_ | refine J.inBlock ?_)
    refine J.intro fun w2 hw2 => ih (ts.length - (t + 1)) (by omega) _ _ w2 ?_ ⟨t + 1, K ++ [p], X' ++ [p], i + 1, j + 1, by omega, rfl, by omega, by simp; omega, ?_, by simp at hKX ⊢; omega, by simp, fun p' hp' => ?_, (hE3.trans hE5).trans hw2.ext.no, (hR5.ext0 hw2.ext).eq ?_, rfl⟩
    · exact ⟨rfl, rfl, rfl, rfl, trivial⟩
    · rw [take_snoc hp, List.filter_append, ← hK]; simp [keepq, hq']
    · rcases List.mem_append.1 hp' with hp' | hp'
      · exact hoX p' (.tail _ hp')
      · simp at hp'; subst hp'; exact hop
    · rw [List.set_append_right _ _ (by omega)]; simp
  · have hq' : ¬ p.2.lane = q := fun h => hq fun h2 => h2 h
    repeat (first | (apply JL.y; (first | (apply Y_move; rfl) | (apply Y_assign; rfl) | (apply Y_add; rfl; rfl; omega)); rfl) | refine J.region ?_ | refine JL.nil ?_ | refine J.skip ?_ | refine J.inBlock ?_)
    refine J.intro fun w2 hw2 => ih (ts.length - (t + 1)) (by omega) _ _ w2 ?_ ⟨t + 1, K, X ++ [p], i, j + 1, by omega, rfl, by omega, hi, ?_, by simp; omega, by simp, fun p' hp' => ?_, hE3.trans hw2.ext.no, (hR.ext0 hw2.ext).eq (by simp), rfl⟩
    · exact ⟨rfl, rfl, rfl, rfl, trivial⟩
    · rw [take_snoc hp, List.filter_append, ← hK]; simp [keepq, hq']
    · rcases List.mem_append.1 hp' with hp' | hp'
      · exact hoX p' hp'
      · simp at hp'; subst hp'; exact hop
end Go.Proofs.Ytmkpbbdocndfbaa
/- The engine: more of regions whose order is drawn. -/
namespace Go.Proofs.Ytmkpbbdocndfbaa
open Go.RowKit Go.Proofs.YtmkpbbdocndfbaaW.PrintLast
section
variable {P : Program} {f n : Nat} {R : Ending → World → Prop} {k : List Item} {e e' : Env} {w w' w0 : World} {a : Act} {C C' S : World → Prop} {D : Nat → Prop} {H H' : List Blk}
variable {ops : Array Oper} {ty t t2 : TypeId} {pos : String} {aft : Array Edge} {d fuel sz bytes el : Nat} {v : Value} {x y z : Operand} {b o : Nat} {cs : List Value} {ds : List Nat} {l : Array Bool}
/-- []T{x} -/
theorem DR.bslice1 {ag : Bool} {zv v : Value} {c : List Value} (i : Nat) (l' : Array Bool) (hi : ops[i]? = some ⟨some d, .buildSlice t 1 #[(0, x)], ty, pos, aft, none⟩) (hc : readyB .any ops l l' i = true) (hds : (ds.contains i) = false) (hs : SI P t el sz) (ht : TI P el ag sz zv) (hx : opv e x = some v) (hv : v.cells = c.toArray) (hl : c.length = sz) (hsz : Nat.blt 0 sz = true) (h24 : Nat.ble sz 1000 = true) (hd : Nat.blt d n = true) (hw : Cls w0 D H w) (hS : ∀ w', Ext No w w' → S w')
    (hk : ∀ b w', Cls w0 D (⟨b, c, el⟩ :: H) w' → S w' → DR P f n R S ds ops fuel l' k ((d, .slice (some ⟨b, 0, none⟩) 1 1) :: e) w') : DR P f n R S ds ops (fuel + 1) l k e w :=
  DR.one i l' (w.alloc (.cells c.toArray el)) hi hc hds (fun a ha => by
    have := run_bslice1 (P := P) (t := t) (el := el) (zv := zv) (by simpa using hsz) (by simpa using h24) hv hl w
    simp [execOp, ha.eval hx, this]) hd (hS _ (.alloc _ _)) (hk _ _ (hw.alloc c el) (hS _ (.alloc _ _)))
/-- An append of one element that was written out. -/
theorem DR.append1 {z : Value} {bt : Nat} {c : List Value} {chs : List (List Value)} (i : Nat) (l' : Array Bool) (hi : ops[i]? = some ⟨some d, .call { callee := .builtin .append, args := #[x, y], argTypes := #[t, t] }, ty, pos, aft, none⟩) (hc : readyB .any ops l l' i = true) (hds : (ds.contains i) = true) (ha : AI P t el z sz bytes)
    (hx : opv e x = some v) (hy : opv e y = some (.slice (some ⟨b, 0, none⟩) 1 1)) (hr : Row w el sz v chs) (hb : BlkIn w ⟨b, c, bt⟩) (hsz : Nat.blt 0 sz = true) (hl : c.length = sz) (h1 : ∀ u ∈ c, u.oneCell' = true)
    (hn : chs.length ≤ 1000000000) (hby : Nat.ble bytes 1000 = true) (hd : Nat.blt d n = true) (hk : ∀ v' w', Row w' el sz v' (chs ++ [c]) → Apd w w' v v' → DR P f n R S ds ops fuel l' k ((d, v') :: e) w') : DR P f n R S ds ops (fuel + 1) l k e w := by
  have hby' : bytes ≤ 1000 := by simpa using hby
  have hm := Nat.mul_le_mul (show chs.length + 1 ≤ 1000000001 by omega) hby'
  obtain ⟨v', w', h2, h3, h4⟩ := run_apd (P := P) (ty := ty) (t := t) (by simpa using hsz) hr (news := [c]) (by simpa using hl) (by simpa using hb.news) (by simpa using h1) (by simp only [List.length_cons, List.length_nil, Nat.zero_add]; omega) (by simp [maxLen]; omega) (c := 1)
  exact DR.oneL i l' w' hi hc hds (fun a hf => run_append hf hx hy h2) hd (hk v' w' h3 h4)
end
end Go.Proofs.Ytmkpbbdocndfbaa
/- lane: Of, Room, Put. -/
namespace Go.Proofs.Ytmkpbbdocndfbaa
open Go.RowKit Go.Proofs
attribute [local irreducible] Yl JL J G GL GA GQ DR

theorem filt_srt (ms : List Msg) (q : Int) : (St.srt Msg.lane ms).filter (fun m => m.lane == q) = ms.filter (fun m => m.lane == q) := St.srt_stb ms q
theorem MRow.foot {w : World} {v : Value} {ts : List (Value × Msg)} (h : MRow w v ts) : Foot (fun w => MRow w v ts) w (fun k => v.ownBlock = some k) := Row.foot h
/-- lane.Of. -/
theorem laneOf_spec {w : World} {g : Nat} {O E : Nat → Prop} {ln pl : Int} {ms : List Msg} (h : LObj w g O E ln pl ms) (q : Int) : Calls Try.prog 44 #[.pointer (some ⟨g, 0, none⟩), .int .i64 q] w fun e w' => ∃ r, e = .returned r ∧ Ext No w w' ∧ ∃ zs, Rd 5 MsgC w' (fun k => w.heap.size ≤ k) r zs ∧ zs.map (·.2) = ms.filter (fun m => m.lane == q) := by
  have hlen := h.len
  refine Calls.of_G2 Try.func44 rfl Try.ntmps44 rfl ?_
  refine J.at (C := Cls w No []) ?_ (Cls.start _ _)
  repeat (first | (apply JL.y; (first | (apply Y_move; rfl) | (apply Y_assign; rfl)); rfl) | refine J.seq ?_ | refine J.region ?_ | refine JL.nil ?_ | (apply JL.box; rfl; rfl; rfl; intro _))
  refine JL.call _ rfl rfl (fun w1 hw1 => laneAll_spec (h.ext0 hw1.ext)) fun w1 r w2 hw1 ⟨hE, zs, hN, hz⟩ => ?_
  have hc := hw1.ext0 hE
  refine GL.of_JL (C := Cls w2 No []) (Cls.start _ _) ?_
  have hkb := hc.has _ (.head _)
  have hkb1 := (hw1.has _ (.head _)).lt
  obtain ⟨hp, hone⟩ := prs_eq (xs := zs) fun z hz => by obtain ⟨ws, h1, _, _, h2⟩ := MsgC.open_ (hN.own.el z hz); exact ⟨ws, h1, h2⟩
  have hrw := prs_row zs hp
  have hpl : (prs zs).length = zs.length := by simp [prs]
  have hzl : zs.length = ms.length := by have := congrArg List.length hz; simpa [St.srt_len] using this
  have hR : MRow w2 r (prs zs) := by unfold MRow; rw [hrw]; exact hN.own.row
  repeat (first | (apply JL.y; (apply Y_makeFunc; rfl); rfl))
  refine JL.call _ rfl rfl (fun w3 hw3 => deleteMsg_spec (hR.ext0 hw3.ext) (by omega) hone (hkb.ext0 hw3.ext) (fun hb => by have := hN.new _ hb; simp at hkb1; omega)) fun w3 r' w4 hw3 ⟨hE4, hR4, hb4⟩ => ?_
  refine GL.of_JL (C := Cls w4 No []) (Cls.start _ _) ?_
  repeat (first | (apply JL.y; (apply Y_assign; rfl); rfl) | refine JL.nil ?_)
  have hE02 : Ext No w w2 := hc.ext
  have hE03 := hE02.trans hw3.ext
  have hs1 := hw1.ext.size
  have hE04 : Ext No w w4 := hE03.then hE4 fun k hk hd => by have := hN.new k hd; omega
  refine J.ret1 Try.func44 Try.results44 (RV.tm rfl) fun w' hw' => ⟨_, rfl, hE04.trans hw'.ext, ((prs zs).filter (keepq q)).map (fun p => (mch p, p.2)), ⟨?_, fun z hz' => ?_⟩, ?_⟩
  · refine ((hR4.ext0 hw'.ext).foot.imp fun w hw => ?_).mono fun k hk hv => ?_
    · have := Row.rrow hw; simpa [List.map_map, Function.comp_def] using this
    · rw [hb4] at hv; have := hN.new k hv; omega
  · have hzz : z ∈ zs := by
      rw [← hp]
      obtain ⟨p, hp', rfl⟩ := List.mem_map.1 hz'
      exact List.mem_map.2 ⟨p, (List.mem_filter.1 hp').1, rfl⟩
    refine ((((hN.own.el z hzz).ext0 hw3.ext).ext hE4 fun k _ hk hv => hk.2 hv).ext0 hw'.ext).mono fun k _ hk => by have := hk.1; omega
  · rw [← filt_srt, ← hz]
    conv => rhs; rw [← hp]
    rw [List.map_map, List.map_map, List.filter_map]
    rfl
def cnt (ms : List Msg) (q : Int) : Int := ((ms.filter fun m => m.lane == q).length : Int)
def room (ln pl : Int) (ms : List Msg) (q : Int) : Int := if 0 ≤ q ∧ q < ln then pl - cnt ms q else 0
/-- lane.Room. -/
theorem laneRoom_spec {w : World} {g : Nat} {O E : Nat → Prop} {ln pl : Int} {ms : List Msg} (h : LObj w g O E ln pl ms) (q : Int) : Calls Try.prog 42 #[.pointer (some ⟨g, 0, none⟩), .int .i64 q] w fun e w' => e = .returned (.int .i64 (room ln pl ms q)) ∧ Ext No w w' := by
  have hf := h.few q
  have hp := h.hpl
  refine Calls.of_G2 Try.func42 rfl Try.ntmps42 rfl ?_
  refine J.at (C := Cls w No []) ?_ (Cls.start _ _)
  have hl : Foot (Lds Try.prog 3 ⟨g, 1, none⟩ (.int .i64 pl)) w (fun k => k = g) := by
    obtain ⟨sl, zs, hb, _⟩ := h.ex
    exact hb.foot.imp fun w hb => Lds.one hb rfl
  repeat (first | (apply JL.y; (first | (apply Y_move; rfl) | (apply Y_assign; rfl) | (apply Y_not_d; rfl)); rfl) | refine J.seq ?_ | refine J.region ?_ | refine JL.nil ?_ | (apply JL.callq; rfl; rfl; (intro wc hwc; first | exact laneIs_spec (h.ext0 hwc.ext) _)))
  refine J.cond_d rfl (fun hc => ?_) (fun hc => ?_)
  · repeat (first | (apply JL.y; (apply Y_assign; rfl); rfl) | refine J.seq ?_ | refine J.region ?_ | refine JL.nil ?_)
    exact J.ret1 Try.func42 Try.results42 (RV.tm rfl) fun w' hw' => ⟨ret_eq (by rw [room, if_neg hc]), hw'.ext⟩
  have hc' := Classical.not_not.1 hc
  repeat (first | refine J.seq ?_ | refine J.skip ?_)
  refine J.draw (S := Cls _ _ _) [] #[false, false, false, false, false, false, false, false, false, false] rfl rfl (fun w hw => hw.drew) (fun w hS => ?_)
  (apply DR.pure 0 #[true, false, false, false, false, false, false, false, false, false]; rfl; kernel_rfl; (apply Y_move; rfl); rfl)
  (apply DR.pure 1 #[true, true, false, false, false, false, false, false, false, false]; rfl; kernel_rfl; (first | (apply Y_nilCheck; rfl) | (apply Y_nilCheckF; rfl)); rfl)
  (apply DR.pure 2 #[true, true, true, false, false, false, false, false, false, false]; rfl; kernel_rfl; (apply Y_fieldAddr; rfl; rfl); rfl)
  (apply DR.take 3 #[true, true, true, true, false, false, false, false, false, false]; rfl; kernel_rfl; exact Y_loadP rfl fun w hw => hl.at_ hw.ext fun _ _ _ h => h; rfl; exact hS)
  (apply DR.pure 4 #[true, true, true, true, true, false, false, false, false, false]; rfl; kernel_rfl; (apply Y_move; rfl); rfl)
  (apply DR.pure 5 #[true, true, true, true, true, true, false, false, false, false]; rfl; kernel_rfl; (apply Y_move; rfl); rfl)
  refine DR.call 6 #[true, true, true, true, true, true, true, false, false, false] (fun v w' => Ext No _ w' ∧ ∃ A c, v = .slice A (ms.filter (fun m => m.lane == q)).length c) rfl (by kernel_rfl) rfl rfl rfl ((laneOf_spec (h.ext0 hS.ext) q).mono fun en w' he => ?_) (fun v w' hv => hS.ext0 hv.1) (fun v w' ⟨hE, A, c, hv⟩ hS => ?_)
  · obtain ⟨r, h1, hE, zs, hR, hz⟩ := he
    obtain ⟨A, c, hr, _⟩ := hR.slice
    exact ⟨r, h1, hE, A, c, by rw [hr, ← hz]; simp⟩
  subst hv
  (apply DR.pure 7 #[true, true, true, true, true, true, true, true, false, false]; rfl; kernel_rfl; (apply Y_len; rfl); rfl)
  (apply DR.pure 8 #[true, true, true, true, true, true, true, true, true, false]; rfl; kernel_rfl; (apply Y_sub; rfl; rfl; omega); rfl)
  (apply DR.pure 9 #[true, true, true, true, true, true, true, true, true, true]; rfl; kernel_rfl; (apply Y_assign; rfl); rfl)
  refine DR.done (by kernel_rfl) ?_
  refine J.at (C := Cls _ _ _) ?_ hS
  skip
  exact J.ret1 Try.func42 Try.results42 (RV.tm rfl) fun w' hw' => ⟨ret_eq (by rw [room, if_pos hc']; rfl), hw'.ext⟩
end Go.Proofs.Ytmkpbbdocndfbaa
/- lane: Put. -/
namespace Go.Proofs.Ytmkpbbdocndfbaa
open Go.RowKit Go.Proofs
attribute [local irreducible] Yl JL J G GL GA GQ DR

/-- Lanes behind an operation. -/
def LTo (w w' : World) (g : Nat) (O E : Nat → Prop) (ln pl : Int) (ms : List Msg) : Prop :=
  Ext O w w' ∧ ∃ O' E', LObj w' g O' E' ln pl ms ∧ (∀ k, O' k → O k ∨ w.heap.size ≤ k) ∧ (∀ k, E' k → E k ∨ w.heap.size ≤ k)
theorem LTo.same {w w' : World} {g : Nat} {O E : Nat → Prop} {ln pl : Int} {ms : List Msg} (h : LObj w g O E ln pl ms) (he : Ext No w w') : LTo w w' g O E ln pl ms :=
  ⟨he.no, O, E, h.ext0 he, fun _ h => .inl h, fun _ h => .inl h⟩
def putR (ln pl : Int) (ms : List Msg) (m : Msg) : Int × List Msg :=
  if ¬ (0 ≤ m.lane ∧ m.lane < ln) then (3, ms) else if room ln pl ms m.lane = 0 then (10, ms) else (0, ms ++ [m])
theorem cnt_snoc (ms : List Msg) (m : Msg) (q : Int) : cnt (ms ++ [m]) q = cnt ms q + if m.lane = q then 1 else 0 := by
  unfold cnt
  rw [List.filter_append, List.length_append]
  by_cases h : m.lane = q
  · simp [h]
  · have : (m.lane == q) = false := by simpa using h
    simp [h, this]

set_option maxHeartbeats 1000000 in
/-- lane.Put. -/
theorem lanePut_spec {w : World} {g : Nat} {O E : Nat → Prop} {ln pl : Int} {ms : List Msg} (h : LObj w g O E ln pl ms) {okm : Nat → Prop} {v : Value} {m : Msg} (hm : Foot (fun w => RMsg w v m) w okm) :
    Calls Try.prog 31 #[.pointer (some ⟨g, 0, none⟩), v] w fun e w' => ∃ r, e = .returned r ∧ r = .int .i64 (putR ln pl ms m).1 ∧ LTo w w' g O E ln pl (putR ln pl ms m).2 := by
  have hlen := h.len
  have hf := h.few m.lane
  obtain ⟨ws, rfl, hws, hl8, ho⟩ := RMsg.open_ hm
  obtain ⟨sl, zs, hb, hsl, hOwn, hz⟩ := h.ex
  have hgsz : g < w.heap.size := hb.lt
  have hl2 : Foot (Lds Try.prog 26 ⟨g, 2, none⟩ sl) w (fun k => k = g) := hb.foot.imp fun w hb => Lds.one hb rfl
  refine Calls.of_G2 Try.func31 rfl Try.ntmps31 rfl ?_
  refine J.at (C := Cls w No []) ?_ (Cls.start _ _)
  unfold msgC
  repeat (first | (apply JL.y; (first | (apply Y_move; rfl) | (apply Y_assign; rfl) | (apply Y_fieldAddr; rfl; rfl) | (apply Y_load1 0; rfl; rfl; rfl; exact inferInstance) | (apply Y_not_d; rfl)); rfl) | refine J.seq ?_ | refine J.region ?_ | refine JL.nil ?_ | (apply JL.callq; rfl; rfl; (intro wc hwc; first | exact laneIs_spec (h.ext0 hwc.ext) _)) | (apply JL.box; rfl; rfl; rfl; intro _) | refine J.block ?_)
  refine J.cond_d rfl (fun hc => ?_) (fun hc => ?_)
  · repeat (first | (apply JL.y; (apply Y_assign; rfl); rfl) | refine J.seq ?_ | refine J.region ?_ | refine JL.nil ?_)
    exact J.ret1 Try.func31 Try.results31 (RV.tm rfl) fun w' hw' => ⟨_, rfl, by rw [putR, if_pos hc], by rw [putR, if_pos hc]; exact LTo.same h hw'.ext⟩
  have hc' := Classical.not_not.1 hc
  repeat (first | (apply JL.y; (first | (apply Y_move; rfl) | (apply Y_assign; rfl) | (apply Y_fieldAddr; rfl; rfl) | (apply Y_load1 0; rfl; rfl; rfl; exact inferInstance) | (apply Y_eql; rfl; rfl)); rfl) | refine J.seq ?_ | refine J.region ?_ | refine JL.nil ?_ | (apply JL.callq; rfl; rfl; (intro wc hwc; first | exact laneRoom_spec (h.ext0 hwc.ext) _)))
  refine J.cond_d rfl (fun hr => ?_) (fun hr => ?_)
  · repeat (first | (apply JL.y; (apply Y_assign; rfl); rfl) | refine J.seq ?_ | refine J.region ?_ | refine JL.nil ?_)
    exact J.ret1 Try.func31 Try.results31 (RV.tm rfl) fun w' hw' => ⟨_, rfl, by rw [putR, if_neg hc, if_pos hr], by rw [putR, if_neg hc, if_pos hr]; exact LTo.same h hw'.ext⟩
  have hput : putR ln pl ms m = (0, ms ++ [m]) := by rw [putR, if_neg hc, if_neg hr]
  rw [hput]
  have hzl : zs.length ≤ 24 := by have := congrArg List.length hz; simp at this; omega
  obtain ⟨w00, hw00⟩ : ∃ w00, w00 = w := ⟨_, rfl⟩
  have hEg : ¬ E g := h.oe g h.og
  have hElt := h.lt
  have hOg := h.og
  have hoe := h.oe
  repeat (first | refine J.seq ?_ | refine J.skip ?_ | refine J.inBlock ?_)
  refine J.draw (S := Cls _ _ _) [8, 11] #[false, false, false, false, false, false, false, false, false, false, false, false] rfl rfl (fun w hw => hw.drew) (fun w hS => ?_)
  (apply DR.pure 0 #[true, false, false, false, false, false, false, false, false, false, false, false]; rfl; kernel_rfl; (apply Y_move; rfl); rfl)
  (apply DR.pure 1 #[true, true, false, false, false, false, false, false, false, false, false, false]; rfl; kernel_rfl; (apply Y_move; rfl); rfl)
  (apply DR.pure 2 #[true, true, true, false, false, false, false, false, false, false, false, false]; rfl; kernel_rfl; (first | (apply Y_nilCheck; rfl) | (apply Y_nilCheckF; rfl)); rfl)
  (apply DR.pure 3 #[true, true, true, true, false, false, false, false, false, false, false, false]; rfl; kernel_rfl; (apply Y_fieldAddr; rfl; rfl); rfl)
  (apply DR.take 4 #[true, true, true, true, true, false, false, false, false, false, false, false]; rfl; kernel_rfl; exact Y_loadP rfl fun w hw => hl2.at_ hw.ext fun _ _ _ h => h; rfl; exact hS)
  (apply DR.take 5 #[true, true, true, true, true, true, false, false, false, false, false, false]; rfl; kernel_rfl; (first | (apply Y_load1 0; rfl; rfl; rfl; exact inferInstance) | (apply Y_load1 1; rfl; rfl; rfl; exact inferInstance) | (apply Y_load1 2; rfl; rfl; rfl; exact inferInstance) | (apply Y_load1 3; rfl; rfl; rfl; exact inferInstance) | (apply Y_loadW 0; rfl; rfl; exact inferInstance; rfl) | (apply Y_loadW 1; rfl; rfl; exact inferInstance; rfl) | (apply Y_loadW 2; rfl; rfl; exact inferInstance; rfl) | (apply Y_loadW 3; rfl; rfl; exact inferInstance; rfl)); rfl; exact hS)
  refine DR.call 6 #[true, true, true, true, true, true, true, false, false, false, false, false] (fun v w' => ∃ ws', v = .agg (msgC ws' m).toArray ∧ Ext No _ w' ∧ Foot (fun w => RInts w ws' m.words) w' (fun k => w00.heap.size ≤ k) ∧ ws'.oneCell' = true) rfl (by kernel_rfl) rfl rfl rfl ((clone_spec (RMsg.mk (hws.ext0 hS.ext) hl8)).mono fun en w' ⟨r, h1, ws', h2, h3, h4, h5, _⟩ => ⟨r, h1, ws', h2, h3, h4.mono fun k _ hk => by rw [hw00]; exact Nat.le_trans hS.ext.size hk, h5⟩) (fun v w' ⟨ws', hv⟩ => hS.ext0 hv.2.1) (fun v w2 ⟨ws', hv, hE2, hF, ho2⟩ hS => ?_)
  subst hv
  refine DR.bslice1 7 #[true, true, true, true, true, true, true, true, false, false, false, false] rfl (by kernel_rfl) rfl inferInstance inferInstance rfl rfl rfl rfl rfl rfl (Cls.start No w2) (fun w' hw' => hS.ext0 hw') (fun bb w3 hC3 hS => ?_)
  have hF3 := (MsgC.mk hF hl8).ext0 hC3.ext
  have hO3 := hOwn.ext0 hS.ext
  refine DR.append1 8 #[true, true, true, true, true, true, true, true, true, false, false, false] rfl (by kernel_rfl) rfl inferInstance rfl rfl hO3.row (hC3.has _ (.head _)) rfl rfl (msgC_one ho2) (by simp; omega) rfl rfl (fun v' w4 hrow hapd => ?_)
  have hE3 := hS.ext
  have hO4 := hO3.append hrow hapd hF3 (fun k hk hle hv => by have := (hsl k hv).1; have := hElt k (.inl this); rw [hw00] at hle; omega)
  have hg4 : BlkIn w4 _ := (hb.ext0 hE3).keep hapd.ext (fun hv => (hsl g hv).2 rfl)
  have hne : v'.ownBlock ≠ some g := fun hv => by
    rcases hapd.at_ with h1 | h1 <;> rw [h1] at hv
    · exact (hsl g hv).2 rfl
    · injection hv with hv; have := hE3.size; omega
  have hv1 : v'.oneCell' = true := hrow.one
  (apply DR.pure 9 #[true, true, true, true, true, true, true, true, true, true, false, false]; rfl; kernel_rfl; (first | (apply Y_nilCheck; rfl) | (apply Y_nilCheckF; rfl)); rfl)
  (apply DR.pure 10 #[true, true, true, true, true, true, true, true, true, true, true, false]; rfl; kernel_rfl; (apply Y_fieldAddr; rfl; rfl); rfl)
  refine DR.store (C := Cls w4 (fun k => k = g) [⟨g, [.int .i64 ln, .int .i64 pl, sl], 139⟩]) (C' := Cls w4 (fun k => k = g) [⟨g, [.int .i64 ln, .int .i64 pl, v'], 139⟩]) 11 #[true, true, true, true, true, true, true, true, true, true, true, true] rfl (by kernel_rfl) rfl (Cls.start1 hg4) ?_ (fun w5 hC5 => ?_)
  · exact St_1 0 rfl rfl inferInstance hv1 rfl rfl rfl
  refine DR.done (by kernel_rfl) ?_
  refine J.at (C := Cls w5 No []) ?_ (Cls.start _ _)
  repeat (first | (apply JL.y; (apply Y_assign; rfl); rfl) | refine J.seq ?_ | refine J.region ?_ | refine JL.nil ?_)
  subst hw00
  have hg5 : BlkIn w5 ⟨g, [.int .i64 ln, .int .i64 pl, v'], 139⟩ := hC5.has _ (.head _)
  have hE5 := hC5.ext
  have hs3 := hE3.size
  have hs4 := hapd.ext.size
  have hs5 := hE5.size
  have hvlt : ∀ k, v'.ownBlock = some k → k < w4.heap.size := fun k hk => hrow.lt hk
  refine J.ret1 Try.func31 Try.results31 (RV.tm rfl) fun w6 hw6 => ⟨_, rfl, rfl, ?_, fun k => k = g ∨ v'.ownBlock = some k, _, ⟨⟨v', _, hg5.ext0 hw6.ext, fun k hk => ⟨.inr hk, fun hkg => hne (hkg ▸ hk)⟩, (hO4.ext hE5 (fun k hk hkg => hne (hkg ▸ hk)) (fun k hk ho hkg => ?_)).ext0 hw6.ext, by simp [hz]⟩, .inl rfl, fun k hk he => ?_, fun k hk => ?_, h.hln, h.hpl, ?_, ?_⟩, fun k hk => ?_, fun k hk => ?_⟩
  · exact (((hE3.no (D := O)).then hapd.ext fun k _ hk => (hsl k hk).1).then hE5 fun k _ hk => hk ▸ hOg).thenNo hw6.ext
  · subst hkg
    rcases ho.1 with h1 | h1
    · exact hEg h1
    · omega
  · rcases hk with rfl | hk
    · rcases he.1 with h1 | h1
      · exact hEg h1
      · omega
    · exact he.2.2 hk
  · have hs6 := hw6.ext.size
    rcases hk with (rfl | hk) | hk
    · omega
    · have := hvlt k hk; omega
    · have := hk.2.1; omega
  · intro m' hm'
    rcases List.mem_append.1 hm' with hm' | hm'
    · exact h.wf m' hm'
    · simp at hm'; subst hm'; exact hc'
  · intro q
    have h1 := cnt_snoc ms m q
    have h2 : cnt ms q ≤ pl := h.few q
    show ((((ms ++ [m]).filter fun m => m.lane == q).length : Nat) : Int) ≤ pl
    unfold cnt at h1 h2
    by_cases hq : m.lane = q
    · rw [if_pos hq] at h1
      subst hq
      rw [room, if_pos hc'] at hr
      unfold cnt at hr
      omega
    · rw [if_neg hq] at h1; omega
  · rcases hk with rfl | hk
    · exact .inl hOg
    · rcases hapd.at_ with h1 | h1 <;> rw [h1] at hk
      · exact .inl (hsl k hk).1
      · injection hk with hk; exact .inr (by omega)
  · exact hk.1
end Go.Proofs.Ytmkpbbdocndfbaa
/- lane: split. -/
namespace Go.Proofs.Ytmkpbbdocndfbaa
open Go.RowKit Go.Proofs
attribute [local irreducible] Yl JL J G GL GA GQ DR

abbrev Zs := List (List Value × Msg)
/-- Those whose place and message are so. -/
def selL (P : Nat → Msg → Bool) : Nat → Zs → Zs
  | _, [] => []
  | i, z :: r => if P i z.2 then z :: selL P (i + 1) r else selL P (i + 1) r
theorem selL_snoc (P : Nat → Msg → Bool) (z : List Value × Msg) : ∀ (l : Zs) (i : Nat), selL P i (l ++ [z]) = selL P i l ++ if P (i + l.length) z.2 then [z] else []
  | [], i => by simp [selL]
  | y :: l, i => by
    have h := selL_snoc P z l (i + 1)
    simp only [List.cons_append, selL, h, List.length_cons]
    rw [show i + 1 + l.length = i + (l.length + 1) by omega]
    cases P i y.2 <;> simp
theorem selL_sub (P : Nat → Msg → Bool) : ∀ (l : Zs) (i : Nat), (selL P i l).Sublist l
  | [], _ => List.Sublist.slnil
  | y :: l, i => by
    unfold selL
    split
    · exact (selL_sub P l (i + 1)).cons_cons _
    · exact (selL_sub P l (i + 1)).cons _
/-- What a test does that is handed over. -/
structure Dec (cf : Nat) (cap : List Value) (P : Nat → Msg → Bool) (Dc : Nat → Prop) (I : Nat → World → Prop) : Prop where
  ci : CI Try.prog cf
  keep : ∀ i w1 w2 D, I i w1 → Ext D w1 w2 → (∀ k, Dc k → ¬ D k) → I i w2
  run : ∀ i w1 ws m, i < 1000 → I i w1 → Calls Try.prog cf (.agg (msgC ws m).toArray :: cap).toArray w1 fun e w' => e = .returned (.bool (P i m)) ∧ Ext Dc w1 w' ∧ I (i + 1) w'

/-- Two lists that grow, one that is read. -/
structure Two (w0 : World) (E : Nat → Prop) (w : World) (vo vr vx : Value) (zo zr xs : Zs) : Prop where
  o : Own 33 5 MsgC w (fun k => E k ∧ k < w0.heap.size) vo zo
  r : Own 33 5 MsgC w (fun k => E k ∧ k < w0.heap.size) vr zr
  x : Row w 33 5 vx (xs.map (·.1))
  no : ∀ k, vo.ownBlock = some k → w0.heap.size ≤ k
  nr : ∀ k, vr.ownBlock = some k → w0.heap.size ≤ k
  nx : ∀ k, vx.ownBlock = some k → w0.heap.size ≤ k
  or_ : ∀ k, vo.ownBlock = some k → vr.ownBlock ≠ some k
  xo : ∀ k, vx.ownBlock = some k → vo.ownBlock ≠ some k
  xr : ∀ k, vx.ownBlock = some k → vr.ownBlock ≠ some k
section
variable {w0 w w1 : World} {E D : Nat → Prop} {vo vr vx v' : Value} {zo zr xs : Zs}
theorem Two.swap (h : Two w0 E w vo vr vx zo zr xs) : Two w0 E w vr vo vx zr zo xs := ⟨h.r, h.o, h.x, h.nr, h.no, h.nx, fun k h1 h2 => h.or_ k h2 h1, h.xr, h.xo⟩
theorem Two.ext (h : Two w0 E w vo vr vx zo zr xs) (he : Ext D w w1) (hD : ∀ k, k < w.heap.size → D k → k < w0.heap.size ∧ ¬ E k) : Two w0 E w1 vo vr vx zo zr xs := by
  have key : ∀ (v : Value) g, v.ownBlock = some g → g < w.heap.size → (∀ k, v.ownBlock = some k → w0.heap.size ≤ k) → ¬ D g := fun v g hg hl hn hd => by
    have := hn g hg; have := (hD g hl hd).1; omega
  refine ⟨h.o.ext he (fun g hg => key _ g hg (h.o.row.lt hg) h.no) (fun k hk ho hd => (hD k hk hd).2 ho.1), h.r.ext he (fun g hg => key _ g hg (h.r.row.lt hg) h.nr) (fun k hk ho hd => (hD k hk hd).2 ho.1), h.x.ext he (fun g hg => key _ g hg (h.x.lt hg) h.nx), h.no, h.nr, h.nx, h.or_, h.xo, h.xr⟩
theorem Two.app (h : Two w0 E w vo vr vx zo zr xs) {c : List Value} {m : Msg} (hrow : Row w1 33 5 v' (zo.map (·.1) ++ [c])) (ha : Apd w w1 vo v') (hx : Foot (fun w => MsgC w c m) w (fun k => E k ∧ k < w0.heap.size)) (hs : w0.heap.size ≤ w.heap.size) : Two w0 E w1 v' vr vx (zo ++ [(c, m)]) zr xs := by
  have hn : ∀ k, v'.ownBlock = some k → w0.heap.size ≤ k := fun k hk => by
    rcases ha.at_ with h1 | h1 <;> rw [h1] at hk
    · exact h.no k hk
    · injection hk with hk; omega
  have hap : ∀ k, E k ∧ k < w0.heap.size → v'.ownBlock ≠ some k := fun k hk hv => by have := hn k hv; omega
  have hsep : ∀ {v : Value}, (∀ k, v.ownBlock = some k → k < w.heap.size) → (∀ k, v.ownBlock = some k → vo.ownBlock ≠ some k) → ∀ k, v.ownBlock = some k → v'.ownBlock ≠ some k := fun {v} hl hv k hk hk' => by
    rcases ha.at_ with h1 | h1 <;> rw [h1] at hk'
    · exact hv k hk hk'
    · injection hk' with hk'; have := hl k hk; omega
  refine ⟨(h.o.append hrow ha hx fun k _ hk hv => by have := h.no k hv; omega).mono (fun k _ hk => ?_) hap, h.r.ext ha.ext (fun g hg hd => h.or_ g hd hg) (fun k _ hk hv => by have := h.no k hv; omega), h.x.ext ha.ext (fun g hg hd => h.xo g hg hd), hn, h.nr, h.nx, fun k h1 h2 => ?_, ?_, h.xr⟩
  · rcases hk.1 with h1 | h1 <;> exact h1
  · exact hsep (fun k hk => h.r.row.lt hk) (fun k h1 h2 => h.or_ k h2 h1) k h2 h1
  · exact hsep (fun k hk => h.x.lt hk) h.xo
end
set_option maxHeartbeats 2000000 in
/-- lane.split. -/
theorem split_spec {w : World} {g : Nat} {O E : Nat → Prop} {ln pl : Int} {ms : List Msg} (h : LObj w g O E ln pl ms) {cf : Nat} {cap : List Value} {P : Nat → Msg → Bool} {Dc : Nat → Prop} {I : Nat → World → Prop} (hd : Dec cf cap P Dc I) (hI : I 0 w) (hDc : ∀ k, Dc k → k < w.heap.size ∧ ¬ O k ∧ ¬ E k) :
    Calls Try.prog 105 #[.pointer (some ⟨g, 0, none⟩), .func (.func cf) #[] cap.toArray] w fun e w' => ∃ r, e = .returned r ∧ Ext (fun k => O k ∨ Dc k) w w' ∧ ∃ xs : Zs, xs.map (·.2) = St.srt Msg.lane ms ∧
      (∃ O' E', LObj w' g O' E' ln pl ((selL (fun i m => !P i m) 0 xs).map (·.2)) ∧ (∀ k, O' k → O k ∨ w.heap.size ≤ k) ∧ (∀ k, E' k → E k) ∧ (∀ k, r.ownBlock = some k → ¬ O' k)) ∧
      Own 33 5 MsgC w' (fun k => E k ∧ k < w.heap.size) r (selL P 0 xs) ∧ (∀ k, r.ownBlock = some k → w.heap.size ≤ k) := by
  have hlen := h.len
  obtain ⟨sl, zs, hb, hsl, hOwn, hz⟩ := h.ex
  have hgsz : g < w.heap.size := hb.lt
  have hEg : ¬ E g := h.oe g h.og
  have hzl : zs.length ≤ 24 := by have := congrArg List.length hz; simp at this; omega
  have hl2 : Foot (Lds Try.prog 26 ⟨g, 2, none⟩ sl) w (fun k => k = g) := hb.foot.imp fun w hb => Lds.one hb rfl
  have hci := hd.ci
  refine Calls.of_G2 Try.func105 rfl Try.ntmps105 rfl ?_
  refine J.at (C := Cls w No []) ?_ (Cls.start _ _)
  repeat (first | (apply JL.y; (first | (apply Y_move; rfl) | (apply Y_assign; rfl) | (apply Y_pnil_f; rfl)); rfl) | refine J.seq ?_ | refine J.region ?_ | refine JL.nil ?_)
  apply J.cond_f rfl
  repeat (first | (apply JL.y; (first | (apply Y_move; rfl) | (apply Y_assign; rfl) | (apply Y_fieldAddr; rfl; rfl) | (apply Y_loadP; rfl; (intro wc hwc; first | exact hl2.at_ hwc.ext fun _ _ _ h => h)) | (apply Y_nilCheck; rfl)); rfl) | refine J.seq ?_ | refine J.region ?_ | refine JL.nil ?_ | refine J.skip ?_)
  refine JL.call _ rfl rfl (fun w1 hw1 => sorted_spec (hOwn.reads.ext0 hw1.ext) (by omega) keySplit) fun w1 r w2 hw1 ⟨hE, hO, hg⟩ => ?_
  refine GL.of_JL (C := Cls w2 No []) (Cls.start _ _) ?_
  have hE2 := hw1.ext.trans hE
  have hs1 := hw1.ext.size
  obtain ⟨xs, hxs⟩ : ∃ xs, xs = St.srt skey zs := ⟨_, rfl⟩
  rw [← hxs] at hO
  have hxl : xs.length ≤ 24 := by rw [hxs, St.srt_len]; exact hzl
  have hxm : xs.map (·.2) = St.srt Msg.lane ms := by rw [hxs, srt_snd, hz]
  obtain ⟨A, c, hr, hcap, hmx⟩ := hO.slice
  subst hr
  have hOE : ∀ k, E k → ¬ O k := fun k he ho => h.oe k ho he
  have hel : ∀ z ∈ xs, Foot (fun w => MsgC w z.1 z.2) w E := fun z hz' => hOwn.el z (by rw [hxs] at hz'; exact St.srt_mem.1 hz')
  have hg' : ∀ k, (Value.slice A xs.length c).ownBlock = some k → w.heap.size ≤ k := fun k hk => Nat.le_trans hs1 (hg k hk)
  have hTwo : Two w E w2 (.slice none 0 0) (.slice none 0 0) (.slice A xs.length c) [] [] xs :=
    ⟨Own.nil _ _ _ _ _, Own.nil _ _ _ _ _, hO.row, fun k hk => by simp [Value.ownBlock] at hk, fun k hk => by simp [Value.ownBlock] at hk, hg', fun k hk => by simp [Value.ownBlock] at hk, fun k _ hk => by simp [Value.ownBlock] at hk, fun k _ hk => by simp [Value.ownBlock] at hk⟩
  clear hO hE hg hw1
  repeat (first | (apply JL.y; (first | (apply Y_move; rfl) | (apply Y_len; rfl)); rfl) | refine JL.nil ?_ | refine J.block ?_)
  refine J.intro fun wl hwl => G.loop (Inv := fun mm e wl => ∃ (i : Nat) (vo vr : Value), i ≤ xs.length ∧ mm = xs.length - i ∧ I i wl ∧ Ext Dc w wl ∧ Two w E wl vo vr (.slice A xs.length c) (selL P 0 (xs.take i)) (selL (fun i m => !P i m) 0 (xs.take i)) xs ∧ e = [(0, .pointer (some ⟨g, 0, none⟩)), (1, .func (.func cf) #[] cap.toArray), (5, vo), (6, vr), (15, .slice A xs.length c), (16, .int .i64 xs.length), (17, .int .i64 i)])
    _ _ ⟨0, _, _, Nat.zero_le _, rfl, hd.keep _ _ _ _ hI (hE2.trans hwl.ext) fun _ _ h => h, (hE2.trans hwl.ext).no, hTwo.ext hwl.ext fun _ _ h => h.elim, rfl⟩ ⟨rfl, rfl, rfl, rfl, rfl, rfl, rfl, trivial⟩ ?_
  rintro mm e w3 ⟨i, vo, vr, hi, rfl, hI3, hE3, hT3, rfl⟩ ih
  refine J.at (C := Cls w3 No []) ?_ (Cls.start _ _)
  have hs3 := hE3.size
  repeat (first | (apply JL.y; (apply Y_lss; rfl; rfl); rfl) | refine J.seq ?_ | refine J.region ?_ | refine JL.nil ?_)
  refine J.cond_d rfl (fun hlt => ?_) (fun hlt => ?_)
  case refine_2 =>
    have hii : i = xs.length := by omega
    subst hii
    rw [List.take_length] at hT3
    have hg3 := hb.keep hE3 fun hk => (hDc g hk).2.1 h.og
    refine J.imp (C' := Cls w3 (fun k => k = g) [⟨g, [.int .i64 ln, .int .i64 pl, sl], 139⟩]) ?_ fun w' hw' => ⟨hw'.ext.no, by simpa using hg3.ext0 hw'.ext, ⟨by simp, trivial⟩, by simp⟩
    have hv1 := hT3.r.row.one
    repeat (first | (apply JL.y; (first | (apply Y_move; rfl) | (apply Y_assign; rfl) | (apply Y_fieldAddr; rfl; rfl) | (apply Y_nilCheck; rfl)); rfl) | refine J.seq ?_ | refine J.region ?_ | refine JL.nil ?_ | (apply JL.store; (apply St_1 0; rfl; rfl; exact inferInstance; (first | rfl | assumption); rfl; rfl; (first | (focus (simp only [List.set_cons_zero, List.set_cons_succ]; done)) | (simp only [List.set_cons_zero, List.set_cons_succ]; rfl)))) | (apply J.exit; rfl))
    refine J.ret1 Try.func105 Try.results105 (RV.tm rfl) fun w4 hw4 => ?_
    have hg4 : BlkIn w4 ⟨g, [.int .i64 ln, .int .i64 pl, vr], 139⟩ := hw4.has _ (.head _)
    have hE4 := hw4.ext
    have hT4 := hT3.ext hE4 (fun k _ hk => by
      have hk' : k = g := hk
      subst hk'; exact ⟨hgsz, hEg⟩)
    have hs4 := hE4.size
    have hmem : ∀ m' ∈ (selL (fun i m => !P i m) 0 xs).map (·.2), m' ∈ ms := fun m' hm' => by
      have h1 : m' ∈ xs.map (·.2) := ((selL_sub _ xs 0).map _).subset hm'
      rw [hxm] at h1
      exact St.srt_mem.1 h1
    refine ⟨_, rfl, (hE3.mono fun k _ hk => .inr hk).then hE4 fun k _ hk => .inl (hk ▸ h.og), xs, hxm, ⟨fun k => k = g ∨ vr.ownBlock = some k, fun k => E k ∧ k < w.heap.size, ⟨⟨vr, _, hg4, fun k hk => ⟨.inr hk, fun hkg => by have := hT3.nr k hk; omega⟩, hT4.r, rfl⟩, .inl rfl, fun k hk he => ?_, fun k hk => ?_, h.hln, h.hpl, fun m' hm' => h.wf m' (hmem m' hm'), fun q => ?_⟩, fun k hk => ?_, fun k hk => hk.1, fun k hk hk' => ?_⟩, hT4.o, hT3.no⟩
    · rcases hk with rfl | hk
      · exact hEg he.1
      · have := hT3.nr k hk; omega
    · rcases hk with (rfl | hk) | hk
      · omega
      · exact hT4.r.row.lt hk
      · omega
    · refine Int.le_trans ?_ (h.few q)
      have h1 := (((selL_sub (fun i m => !P i m) xs 0).map (·.2)).filter (fun m => m.lane == q)).length_le
      rw [hxm, filt_srt] at h1
      omega
    · rcases hk with rfl | hk
      · exact .inl h.og
      · exact .inr (hT3.nr k hk)
    · rcases hk' with rfl | hk'
      · have := hT3.no _ hk; omega
      · exact hT3.or_ k hk hk'
  have hil : i < xs.length := by omega
  obtain ⟨z, hx⟩ : ∃ z, xs[i]? = some z := ⟨_, List.getElem?_eq_getElem hil⟩
  have hzm := List.mem_of_getElem? hx
  have hRd : Rd 5 MsgC w3 (fun k => (E k ∧ k < w.heap.size) ∨ (Value.slice A xs.length c).ownBlock = some k) (.slice A xs.length c) xs :=
    ⟨((Row.foot hT3.x).imp fun w hw => Row.rrow hw).mono fun k _ hk => .inr hk, fun z hz => ((hel z hz).old hE3 fun k _ he hk => (hDc k hk).2.2 he).mono fun k _ hk => .inl hk⟩
  obtain ⟨ad, _, e1⟩ := hRd.base (by omega) (by omega)
  cases e1
  have l1 := hRd.lds (P := Try.prog) (t := 33) hx
  obtain ⟨ws, hws, hwr, hl8, ho⟩ := MsgC.open_ (hel z hzm)
  have hmf := (MsgC.mk hwr hl8).old hE3 fun k _ he hk => (hDc k hk).2.2 he
  obtain ⟨z1, m⟩ := z
  simp only at hws hwr hl8 hmf
  subst hws
  unfold maxLen at hmx
  have hso : (selL P 0 (xs.take (i + 1))) = selL P 0 (xs.take i) ++ if P i m then [(msgC ws m, m)] else [] := by
    rw [take_snoc hx, selL_snoc, Nat.zero_add, List.length_take, Nat.min_eq_left hi]
  have hsr : (selL (fun i m => !P i m) 0 (xs.take (i + 1))) = selL (fun i m => !P i m) 0 (xs.take i) ++ if (!P i m) then [(msgC ws m, m)] else [] := by
    rw [take_snoc hx, selL_snoc, Nat.zero_add, List.length_take, Nat.min_eq_left hi]
  have hol : (selL P 0 (xs.take i)).length ≤ 24 := Nat.le_trans (selL_sub _ _ _).length_le (by rw [List.length_take]; omega)
  have hrl : (selL (fun i m => !P i m) 0 (xs.take i)).length ≤ 24 := Nat.le_trans (selL_sub _ _ _).length_le (by rw [List.length_take]; omega)
  repeat (first | refine J.seq ?_ | refine J.region ?_ | refine J.skip ?_ | refine J.block ?_)
  apply JL.y (Y_indexAddr rfl rfl (by omega)) rfl
  apply JL.y (Y_loadP rfl fun w hw => l1.at_ hw.ext fun _ _ _ h => h) rfl
  unfold msgC
  repeat (first | (apply JL.y; (first | (apply Y_move; rfl) | (apply Y_loadW 0; rfl; rfl; exact inferInstance; rfl)); rfl) | refine J.seq ?_ | refine J.region ?_ | refine JL.nil ?_ | (apply JL.alloc; rfl; rfl; intro _) | (apply JL.store; (apply St_W 0; rfl; rfl; rfl; exact inferInstance; rfl; rfl; (first | (focus (simp [Value.oneCell']; done)) | (simp [Value.oneCell']; assumption) | (simp [Value.oneCell']; exact ⟨by assumption, by assumption⟩)); (first | (focus (simp only [List.set_cons_zero]; done)) | (simp only [List.set_cons_zero]; rfl)))))
  refine JL.callC (fun w4 v w5 => v = .bool (P i m) ∧ Ext Dc w4 w5 ∧ I (i + 1) w5) rfl hci rfl rfl (fun w4 hw4 => (hd.run i w4 ws m (by omega) (hd.keep _ _ _ _ hI3 hw4.ext fun _ _ h => h)).mono fun en w' he => ⟨_, he.1, rfl, he.2⟩) fun w4 v w5 hw4 ⟨hv, hE5, hI5⟩ => ?_
  subst hv
  have hb8 := hw4.has _ (.head _)
  have hm8 := (hw4.mine _ (.head _)).resolve_left id
  have hs4 := hw4.ext.size
  have hb5 := hb8.keep hE5 fun hk => by have := (hDc _ hk).1; omega
  have hE35 : Ext Dc w3 w5 := hw4.ext.no.trans hE5
  refine GL.of_JL (C := Cls w5 _ [_]) (Cls.start1 hb5) ?_
  repeat (first | refine JL.nil ?_)
  cases hP : P i m with
  | true =>
    rw [hP] at hso hsr
    refine J.cond_t rfl ?_
    repeat (first | (apply JL.y; (first | (apply Y_move; rfl) | (apply Y_loadW 0; rfl; rfl; exact inferInstance; rfl)); rfl) | refine J.region ?_ | (apply JL.bslice1; rfl; rfl; rfl; rfl; rfl; rfl; intro _))
    refine JL.intro fun w6 hw6 => ?_
    have hE36 : Ext Dc w3 w6 := hE35.then hw6.ext fun k hk hkb => by
      have hkb' : k = _ := hkb
      rw [hkb'] at hk; simp only at hm8 hk; omega
    have hT6 := hT3.ext hE36 fun k _ hk => ⟨(hDc k hk).1, (hDc k hk).2.2⟩
    have hmf6 := hmf.ext hE36 fun k _ hk hd' => (hDc k hd').2.2 hk.1
    have hI6 := hd.keep _ _ _ _ hI5 hw6.ext fun k hk hkb => by
      have hkb' : k = _ := hkb
      have := (hDc k hk).1; rw [hkb'] at this; simp only at hm8 this; omega
    refine GL.append1 rfl rfl hT6.o.row (hw6.has _ (.head _)) rfl rfl (msgC_one ho) (by simp; omega) rfl rfl fun v' w7 hrow hapd => ?_
    have hT7 := (hT6.app hrow hapd hmf6 (Nat.le_trans hs3 hE36.size))
    have hE37 : Ext Dc w w7 := (hE3.trans hE36).then hapd.ext fun k hk hv => by have := hT6.no k hv; omega
    have hI7 := hd.keep _ _ _ _ hI6 hapd.ext fun k hk hv => by have := (hDc k hk).1; have := hT6.no k hv; omega
    refine GL.of_JL (C := Cls w7 No []) (Cls.start _ _) ?_
    repeat (first | (apply JL.y; (first | (apply Y_move; rfl) | (apply Y_assign; rfl) | (apply Y_add; rfl; rfl; omega)); rfl) | refine J.region ?_ | refine JL.nil ?_ | refine J.inBlock ?_)
    refine J.intro fun w8 hw8 => ih (xs.length - (i + 1)) (by omega) _ _ w8 ?_ ⟨i + 1, v', vr, hil, rfl, hd.keep _ _ _ _ hI7 hw8.ext fun _ _ h => h, hE37.trans hw8.ext.no, ?_, rfl⟩
    · exact ⟨rfl, rfl, rfl, rfl, rfl, rfl, rfl, trivial⟩
    · rw [hso, hsr]
      simpa [msgC] using hT7.ext hw8.ext fun _ _ h => h.elim
  | false =>
    rw [hP] at hso hsr
    refine J.cond_f rfl ?_
    repeat (first | (apply JL.y; (first | (apply Y_move; rfl) | (apply Y_loadW 0; rfl; rfl; exact inferInstance; rfl)); rfl) | refine J.region ?_ | (apply JL.bslice1; rfl; rfl; rfl; rfl; rfl; rfl; intro _))
    refine JL.intro fun w6 hw6 => ?_
    have hE36 : Ext Dc w3 w6 := hE35.then hw6.ext fun k hk hkb => by
      have hkb' : k = _ := hkb
      rw [hkb'] at hk; simp only at hm8 hk; omega
    have hT6 := hT3.ext hE36 fun k _ hk => ⟨(hDc k hk).1, (hDc k hk).2.2⟩
    have hmf6 := hmf.ext hE36 fun k _ hk hd' => (hDc k hd').2.2 hk.1
    have hI6 := hd.keep _ _ _ _ hI5 hw6.ext fun k hk hkb => by
      have hkb' : k = _ := hkb
      have := (hDc k hk).1; rw [hkb'] at this; simp only at hm8 this; omega
    refine GL.append1 rfl rfl hT6.swap.o.row (hw6.has _ (.head _)) rfl rfl (msgC_one ho) (by simp; omega) rfl rfl fun v' w7 hrow hapd => ?_
    have hT7 := (hT6.swap.app hrow hapd hmf6 (Nat.le_trans hs3 hE36.size)).swap
    have hE37 : Ext Dc w w7 := (hE3.trans hE36).then hapd.ext fun k hk hv => by have := hT6.swap.no k hv; omega
    have hI7 := hd.keep _ _ _ _ hI6 hapd.ext fun k hk hv => by have := (hDc k hk).1; have := hT6.swap.no k hv; omega
    refine GL.of_JL (C := Cls w7 No []) (Cls.start _ _) ?_
    repeat (first | (apply JL.y; (first | (apply Y_move; rfl) | (apply Y_assign; rfl) | (apply Y_add; rfl; rfl; omega)); rfl) | refine J.region ?_ | refine JL.nil ?_ | refine J.inBlock ?_)
    refine J.intro fun w8 hw8 => ih (xs.length - (i + 1)) (by omega) _ _ w8 ?_ ⟨i + 1, vo, v', hil, rfl, hd.keep _ _ _ _ hI7 hw8.ext fun _ _ h => h, hE37.trans hw8.ext.no, ?_, rfl⟩
    · exact ⟨rfl, rfl, rfl, rfl, rfl, rfl, rfl, trivial⟩
    · rw [hso, hsr]
      simpa [msgC] using hT7.ext hw8.ext fun _ _ h => h.elim
end Go.Proofs.Ytmkpbbdocndfbaa
/- lane: Take, Sweep, Flush, Peek. -/
namespace Go.Proofs.Ytmkpbbdocndfbaa
open Go.RowKit Go.Proofs
attribute [local irreducible] Yl JL J G GL GA GQ DR

theorem selL_filter (p : Msg → Bool) : ∀ (l : Zs) (i : Nat), selL (fun _ m => p m) i l = l.filter (fun z => p z.2)
  | [], _ => rfl
  | z :: r, i => by
    unfold selL
    rw [selL_filter p r (i + 1), List.filter_cons]
theorem selL_none : ∀ (l : Zs) (i : Nat), 0 < i → selL (fun i _ => decide (i = 0)) i l = []
  | [], _, _ => rfl
  | z :: r, i, h => by
    unfold selL
    rw [selL_none r (i + 1) (by omega), if_neg (by simp; omega)]
theorem selL_all : ∀ (l : Zs) (i : Nat), 0 < i → selL (fun i _ => !decide (i = 0)) i l = l
  | [], _, _ => rfl
  | z :: r, i, h => by
    unfold selL
    rw [selL_all r (i + 1) (by omega), if_pos (by simp; omega)]
theorem selL_take1 (l : Zs) : selL (fun i _ => decide (i = 0)) 0 l = l.take 1 := by
  cases l with
  | nil => rfl
  | cons z r => unfold selL; rw [selL_none r 1 (by omega)]; simp
theorem selL_drop1 (l : Zs) : selL (fun i _ => !decide (i = 0)) 0 l = l.drop 1 := by
  cases l with
  | nil => rfl
  | cons z r => unfold selL; rw [selL_all r 1 (by omega)]; simp
def zeroMsg : Msg := ⟨[], 0, 0, 0, 0⟩
/-- What is taken of a row, and what stays. -/
def takeR : List Msg → Msg × Bool × List Msg
  | [] => (zeroMsg, false, [])
  | m :: r => (m, true, r)
/-- The closure that lane.Take hands over. -/
theorem takeDec (cb : Nat) : Dec 106 [.pointer (some ⟨cb, 0, none⟩)] (fun i _ => decide (i = 0)) (fun k => k = cb) (fun i w => BlkIn w ⟨cb, [.int .i64 i], 3⟩) where
  ci := inferInstance
  keep := fun i w1 w2 D h he hd => h.keep he (hd cb rfl)
  run := fun i w1 ws m hi h => by
    refine Calls.of_G2 Try.func106 rfl Try.ntmps106 rfl ?_
    refine J.at (C := Cls w1 (fun k => k = cb) [⟨cb, [.int .i64 i], 3⟩]) ?_ (Cls.start1 h)
    unfold msgC
    repeat (first | (apply JL.y; (first | (apply Y_assign; rfl) | (apply Y_load1 1; rfl; rfl; rfl; exact inferInstance) | (apply Y_eql; rfl; rfl) | (apply Y_add; rfl; rfl; omega)); rfl) | refine J.seq ?_ | refine J.region ?_ | refine JL.nil ?_ | (apply JL.box; rfl; rfl; rfl; intro _) | (apply JL.store; (apply St_1 1; rfl; rfl; exact inferInstance; (first | rfl | assumption); rfl; rfl; (first | (focus (simp only [List.set_cons_zero, List.set_cons_succ]; done)) | (simp only [List.set_cons_zero, List.set_cons_succ]; rfl)))))
    refine J.ret1 Try.func106 Try.results106 (RV.tm rfl) fun w' hw' => ⟨ret_bool (by simp; omega), hw'.ext, ?_⟩
    exact hw'.has _ (.tail _ (.head _))

theorem zero_msg (w : World) (ok : Nat → Prop) : Foot (fun w => RMsg w (.agg (msgC (.slice none 0 0) zeroMsg).toArray) zeroMsg) w ok := Foot.pure fun w => ⟨_, rfl, RRow.nil w 1, by simp [zeroMsg]⟩
theorem drop_map (xs : Zs) : ((xs.drop 1).map (·.2)) = (takeR (xs.map (·.2))).2.2 := by
  cases xs <;> rfl
set_option maxHeartbeats 1000000 in
/-- lane.Take. -/
theorem laneTake_spec {w : World} {g : Nat} {O E : Nat → Prop} {ln pl : Int} {ms : List Msg} (h : LObj w g O E ln pl ms) :
    Calls Try.prog 34 #[.pointer (some ⟨g, 0, none⟩)] w fun e w' => ∃ r, e = .returned r ∧ ∃ v, r = .tuple #[v, .bool (takeR (St.srt Msg.lane ms)).2.1] ∧ Foot (fun w => RMsg w v (takeR (St.srt Msg.lane ms)).1) w' (fun k => E k ∧ k < w.heap.size) ∧ LTo w w' g O E ln pl (takeR (St.srt Msg.lane ms)).2.2 := by
  have hElt := h.lt
  refine Calls.of_G1 Try.func34 rfl Try.ntmps34 rfl ?_
  refine J.at (C := Cls w No []) ?_ (Cls.start _ _)
  repeat (first | (apply JL.y; (first | (apply Y_move; rfl) | (apply Y_assign; rfl) | (apply Y_makeFunc; rfl)); rfl) | refine J.seq ?_ | refine J.region ?_ | refine JL.nil ?_ | (apply JL.alloc; rfl; rfl; intro _) | (apply JL.store; (apply St_1 0; rfl; rfl; exact inferInstance; (first | rfl | assumption); rfl; rfl; (first | (focus (simp only [List.set_cons_zero]; done)) | (simp only [List.set_cons_zero]; rfl)))))
  rename_i b2 cb
  have hdec := takeDec cb
  refine JL.call (fun w1 r w2 => _) rfl rfl (fun w1 hw1 => (split_spec (h.ext0 hw1.ext) hdec (hw1.has _ (.head _)) (fun k hk => by
    subst hk
    have h1 := (hw1.has _ (.head _)).lt
    have h2 := (hw1.mine _ (.head _)).resolve_left id
    simp only at h1 h2
    exact ⟨h1, fun ho => by have := hElt _ (.inl ho); omega, fun ho => by have := hElt _ (.inr ho); omega⟩))) fun w1 r w2 hw1 ⟨hE, xs, hxm, ⟨O', E', hL, hO', hE', hrO⟩, hOwn, hrn⟩ => ?_
  have hs1 := hw1.ext.size
  have hs2 := hE.size
  have hb2 := hw1.has _ (.tail _ (.head _))
  have hm2 := (hw1.mine _ (.tail _ (.head _))).resolve_left id
  have hlt2 := hb2.lt
  have hcb2 : b2 ≠ cb := fun h => by have := hw1.apart.1 _ (.head _); simp at this; exact this h
  simp only at hm2 hlt2
  have hb3 := hb2.keep hE (by
    simp only
    rintro (ho | ho)
    · have := hElt _ (.inl ho); omega
    · exact hcb2 ho)
  have hmc := (hw1.mine _ (.head _)).resolve_left id
  simp only at hmc
  have hE02 : Ext O w w2 := hw1.ext.no.then hE fun k hk hd => hd.resolve_right fun h => by omega
  rw [selL_take1] at hOwn
  rw [selL_drop1, drop_map, hxm] at hL
  obtain ⟨A, c, hr, hcap, hmx⟩ := hOwn.slice
  subst hr
  refine GL.of_JL (C := Cls w2 _ [_]) (Cls.start1 hb3) ?_
  repeat (first | (apply JL.y; (first | (apply Y_move; rfl) | (apply Y_assign; rfl) | (apply Y_len; rfl) | (apply Y_eql; rfl; rfl)); rfl) | refine J.seq ?_ | refine J.region ?_ | refine JL.nil ?_)
  have hlt3 := hb3.lt
  simp only at hlt3
  have hfin : ∀ w4 : World, Ext (fun k => k = b2) w2 w4 → LTo w w4 g O E ln pl (takeR (St.srt Msg.lane ms)).2.2 := fun w4 he => by
    refine ⟨hE02.then he fun k hk hd => ?_, O', E', hL.ext he fun k hk hd => ?_, fun k hk => ?_, fun k hk => .inl (hE' k hk)⟩
    · have hd' : k = b2 := hd
      omega
    · have hd' : k = b2 := hd
      subst hd'
      rcases hk with hk | hk
      · rcases hO' _ hk with h1 | h1
        · have := hElt _ (.inl h1); omega
        · have h3 := hw1.ext.size
          have := (hw1.has _ (.tail _ (.head _))).lt
          simp only at this; omega
      · have := hElt _ (.inr (hE' _ hk)); omega
    · rcases hO' _ hk with h1 | h1
      · exact .inl h1
      · exact .inr (by omega)
  cases xs with
  | nil =>
    have hs : St.srt Msg.lane ms = [] := hxm.symm
    refine J.cond_t rfl ?_
    repeat (first | (apply JL.y; (first | (apply Y_assign; rfl) | (apply Y_build; rfl; exact inferInstance)); rfl) | refine J.seq ?_ | refine J.region ?_ | refine JL.nil ?_ | (apply JL.store; (apply St_W 0; rfl; rfl; rfl; exact inferInstance; rfl; rfl; (first | (focus (simp [Value.oneCell']; done)) | (simp [Value.oneCell']; assumption) | (simp [Value.oneCell']; exact ⟨by assumption, by assumption⟩)); (first | (focus (simp only [List.set_cons_zero]; done)) | (simp only [List.set_cons_zero]; rfl)))))
    refine J.ret2 Try.func34 Try.results34 (RV.W 0 rfl rfl rfl) (RV.tm rfl) fun w4 hw4 => ⟨_, rfl, _, by rw [hs]; rfl, ?_, hfin w4 hw4.ext⟩
    rw [hs]
    exact zero_msg w4 _
  | cons z xs =>
    have hs : St.srt Msg.lane ms = z.2 :: xs.map (·.2) := hxm.symm
    have hzf := hOwn.el z (by simp)
    obtain ⟨ws, hws, hwr, hl8, ho⟩ := MsgC.open_ hzf
    have hRd := hOwn.reads
    obtain ⟨ad, _, e1⟩ := hRd.base (by omega) (by simp)
    cases e1
    have l1 := hRd.lds (P := Try.prog) (t := 33) (i := 0) (z := z) rfl
    have hbO : ∀ k, ((E k ∧ k < w1.heap.size) ∨ (Value.slice (some ad) ((z :: xs).take 1).length c).ownBlock = some k) → ¬ k = b2 := fun k hk hkb => by
      subst hkb
      rcases hk with hk | hk
      · have := hElt _ (.inr hk.1); omega
      · have := hrn _ hk; have := (hw1.has _ (.tail _ (.head _))).lt; simp only at this; omega
    refine J.cond_f rfl ?_
    repeat (first | (apply JL.y; (apply Y_move; rfl); rfl) | refine J.seq ?_ | refine J.region ?_ | refine J.skip ?_)
    apply JL.y (Y_indexAddr rfl rfl (by simp)) rfl
    apply JL.y (Y_loadP rfl fun w hw => l1.at_ hw.ext fun k _ hk => hbO k hk) rfl
    rw [hws]
    unfold msgC
    repeat (first | (apply JL.y; (apply Y_assign; rfl); rfl) | refine JL.nil ?_ | (apply JL.store; (apply St_W 0; rfl; rfl; rfl; exact inferInstance; rfl; rfl; (first | (focus (simp [Value.oneCell']; done)) | (simp [Value.oneCell']; assumption) | (simp [Value.oneCell']; exact ⟨by assumption, by assumption⟩)); (first | (focus (simp only [List.set_cons_zero]; done)) | (simp only [List.set_cons_zero]; rfl)))))
    refine J.ret2 Try.func34 Try.results34 (RV.W 0 rfl rfl rfl) (RV.tm rfl) fun w4 hw4 => ⟨_, rfl, _, by rw [hs]; rfl, ?_, hfin w4 hw4.ext⟩
    rw [hs]
    refine (((RMsg.mk hwr hl8).ext hw4.ext fun k _ hk => hbO k (.inl hk))).mono fun k _ hk => ⟨hk.1, hElt k (.inr hk.1)⟩
end Go.Proofs.Ytmkpbbdocndfbaa
/- lane: Sweep, Flush, Peek. -/
namespace Go.Proofs.Ytmkpbbdocndfbaa
open Go.RowKit Go.Proofs
attribute [local irreducible] Yl JL J G GL GA GQ DR

def late (now : Int) (m : Msg) : Bool := decide (cut m.late ≤ cut now)
theorem sweepDec (nb : Nat) (now : Int) : Dec 107 [.pointer (some ⟨nb, 0, none⟩)] (fun _ m => late now m) (fun k => k = nb) (fun _ w => BlkIn w ⟨nb, [.int .i64 now], 3⟩ ) where
  ci := inferInstance
  keep := fun i w1 w2 D h he hd => h.keep he (hd nb rfl)
  run := fun i w1 ws m hi h => by
    have hl : Foot (Lds Try.prog 3 ⟨nb, 0, none⟩ (.int .i64 now)) w1 (fun k => k = nb) := h.foot.imp fun w hb => Lds.one hb rfl
    refine Calls.of_G2 Try.func107 rfl Try.ntmps107 rfl ?_
    refine J.at (C := Cls w1 No []) ?_ (Cls.start _ _)
    unfold msgC
    repeat (first | (apply JL.y; (first | (apply Y_assign; rfl) | (apply Y_fieldAddr; rfl; rfl) | (apply Y_load1 0; rfl; rfl; rfl; exact inferInstance) | (apply Y_loadP; rfl; (intro wc hwc; first | exact hl.at_ hwc.ext (fun _ _ _ h => h) | exact late_spec _ _ _))); rfl) | refine J.seq ?_ | refine J.region ?_ | refine JL.nil ?_ | (apply JL.callq; rfl; rfl; (intro wc hwc; first | exact hl.at_ hwc.ext (fun _ _ _ h => h) | exact late_spec _ _ _)) | (apply JL.box; rfl; rfl; rfl; intro _))
    refine J.ret1 Try.func107 Try.results107 (RV.tm rfl) fun w' hw' => ⟨rfl, hw'.ext.no, h.ext0 hw'.ext⟩
theorem flushDec : Dec 109 [] (fun _ _ => true) No (fun _ _ => True) where
  ci := inferInstance
  keep := fun i w1 w2 D h he hd => trivial
  run := fun i w1 ws m hi h => by
    refine Calls.of_G1 Try.func109 rfl Try.ntmps109 rfl ?_
    refine J.at (C := Cls w1 No []) ?_ (Cls.start _ _)
    unfold msgC
    repeat (first | (apply JL.y; (apply Y_assign; rfl); rfl) | refine J.seq ?_ | refine J.region ?_ | refine JL.nil ?_ | (apply JL.box; rfl; rfl; rfl; intro _))
    refine J.ret1 Try.func109 Try.results109 (RV.tm rfl) fun w' hw' => ⟨rfl, hw'.ext, trivial⟩

theorem filt_map (p : Msg → Bool) (xs : Zs) : (xs.filter (fun z => p z.2)).map (·.2) = (xs.map (·.2)).filter p := by
  rw [List.filter_map]; rfl
/-- lane.Sweep. -/
theorem laneSweep_spec {w : World} {g : Nat} {O E : Nat → Prop} {ln pl : Int} {ms : List Msg} (h : LObj w g O E ln pl ms) (now : Int) :
    Calls Try.prog 38 #[.pointer (some ⟨g, 0, none⟩), .int .i64 now] w fun e w' => ∃ r, e = .returned r ∧ ∃ zs : Zs, Own 33 5 MsgC w' (fun k => E k ∧ k < w.heap.size) r zs ∧ (∀ k, r.ownBlock = some k → w.heap.size ≤ k) ∧ zs.map (·.2) = (St.srt Msg.lane ms).filter (late now) ∧ LTo w w' g O E ln pl ((St.srt Msg.lane ms).filter fun m => !late now m) := by
  have hElt := h.lt
  refine Calls.of_G2 Try.func38 rfl Try.ntmps38 rfl ?_
  refine J.at (C := Cls w No []) ?_ (Cls.start _ _)
  repeat (first | (apply JL.y; (first | (apply Y_move; rfl) | (apply Y_assign; rfl) | (apply Y_makeFunc; rfl)); rfl) | refine J.seq ?_ | refine J.region ?_ | refine JL.nil ?_ | (apply JL.box; rfl; rfl; rfl; intro _))
  rename_i nb
  have hdec := sweepDec nb now
  refine JL.call (fun w1 r w2 => _) rfl rfl (fun w1 hw1 => (split_spec (h.ext0 hw1.ext) hdec (hw1.has _ (.head _)) (fun k hk => by
    subst hk
    have h1 := (hw1.has _ (.head _)).lt
    have h2 := (hw1.mine _ (.head _)).resolve_left id
    simp only at h1 h2
    exact ⟨h1, fun ho => by have := hElt _ (.inl ho); omega, fun ho => by have := hElt _ (.inr ho); omega⟩))) fun w1 r w2 hw1 ⟨hE, xs, hxm, ⟨O', E', hL, hO', hE', hrO⟩, hOwn, hrn⟩ => ?_
  have hs1 := hw1.ext.size
  have hmc := (hw1.mine _ (.head _)).resolve_left id
  simp only at hmc
  have hE02 : Ext O w w2 := hw1.ext.no.then hE fun k hk hd => hd.resolve_right fun h => by omega
  rw [selL_filter (late now)] at hOwn
  rw [selL_filter (fun m => !late now m), filt_map (fun m => !late now m), hxm] at hL
  have hOwn' := hOwn.mono (ok' := fun k => E k ∧ k < w.heap.size) (fun k _ hk => ⟨hk.1, hElt k (.inr hk.1)⟩) (fun k hk hv => by have := hrn k hv; omega)
  refine GL.of_JL (C := Cls w2 No []) (Cls.start _ _) ?_
  repeat (first | (apply JL.y; (apply Y_assign; rfl); rfl) | refine JL.nil ?_)
  refine J.ret1 Try.func38 Try.results38 (RV.tm rfl) fun w4 hw4 => ⟨_, rfl, _, hOwn'.ext0 hw4.ext, fun k hk => Nat.le_trans hs1 (hrn k hk), by rw [filt_map, hxm], hE02.trans hw4.ext.no, O', E', hL.ext0 hw4.ext, fun k hk => ?_, fun k hk => .inl (hE' k hk)⟩
  rcases hO' _ hk with h1 | h1
  · exact .inl h1
  · exact .inr (by omega)
/-- lane.Flush. -/
theorem laneFlush_spec {w : World} {g : Nat} {O E : Nat → Prop} {ln pl : Int} {ms : List Msg} (h : LObj w g O E ln pl ms) :
    Calls Try.prog 39 #[.pointer (some ⟨g, 0, none⟩)] w fun e w' => ∃ r, e = .returned r ∧ ∃ zs : Zs, Own 33 5 MsgC w' (fun k => E k ∧ k < w.heap.size) r zs ∧ (∀ k, r.ownBlock = some k → w.heap.size ≤ k) ∧ zs.map (·.2) = St.srt Msg.lane ms ∧ LTo w w' g O E ln pl [] := by
  have hElt := h.lt
  refine Calls.of_G1 Try.func39 rfl Try.ntmps39 rfl ?_
  refine J.at (C := Cls w No []) ?_ (Cls.start _ _)
  repeat (first | (apply JL.y; (first | (apply Y_move; rfl) | (apply Y_assign; rfl)); rfl) | refine J.seq ?_ | refine J.region ?_ | refine JL.nil ?_)
  refine JL.call (fun w1 r w2 => _) rfl rfl (fun w1 hw1 => (split_spec (h.ext0 hw1.ext) flushDec trivial (fun k hk => hk.elim))) fun w1 r w2 hw1 ⟨hE, xs, hxm, ⟨O', E', hL, hO', hE', hrO⟩, hOwn, hrn⟩ => ?_
  have hs1 := hw1.ext.size
  have hE02 : Ext O w w2 := hw1.ext.no.then hE fun k hk hd => hd.resolve_right fun h => h
  rw [selL_filter (fun _ => true), List.filter_eq_self.2 (by simp)] at hOwn
  rw [selL_filter (fun _ => !true), List.filter_eq_nil_iff.2 (by simp)] at hL
  have hOwn' := hOwn.mono (ok' := fun k => E k ∧ k < w.heap.size) (fun k _ hk => ⟨hk.1, hElt k (.inr hk.1)⟩) (fun k hk hv => by have := hrn k hv; omega)
  refine GL.of_JL (C := Cls w2 No []) (Cls.start _ _) ?_
  repeat (first | (apply JL.y; (apply Y_assign; rfl); rfl) | refine JL.nil ?_)
  refine J.ret1 Try.func39 Try.results39 (RV.tm rfl) fun w4 hw4 => ⟨_, rfl, _, hOwn'.ext0 hw4.ext, fun k hk => Nat.le_trans hs1 (hrn k hk), hxm, hE02.trans hw4.ext.no, O', E', hL.ext0 hw4.ext, fun k hk => ?_, fun k hk => .inl (hE' k hk)⟩
  rcases hO' _ hk with h1 | h1
  · exact .inl h1
  · exact .inr (by omega)
/-- lane.Peek. -/
theorem lanePeek_spec {w : World} {g : Nat} {O E : Nat → Prop} {ln pl : Int} {ms : List Msg} (h : LObj w g O E ln pl ms) :
    Calls Try.prog 33 #[.pointer (some ⟨g, 0, none⟩)] w fun e w' => ∃ r, e = .returned r ∧ Ext No w w' ∧ ∃ v, r = .tuple #[v, .bool (takeR (St.srt Msg.lane ms)).2.1] ∧ Foot (fun w => RMsg w v (takeR (St.srt Msg.lane ms)).1) w' (fun k => w.heap.size ≤ k) := by
  refine Calls.of_G1 Try.func33 rfl Try.ntmps33 rfl ?_
  refine J.at (C := Cls w No []) ?_ (Cls.start _ _)
  repeat (first | (apply JL.y; (first | (apply Y_move; rfl) | (apply Y_assign; rfl)); rfl) | refine J.seq ?_ | refine J.region ?_ | refine JL.nil ?_ | (apply JL.alloc; rfl; rfl; intro _))
  rename_i b2
  refine JL.call (fun w1 r w2 => _) rfl rfl (fun w1 hw1 => laneAll_spec (h.ext0 hw1.ext)) fun w1 r w2 hw1 ⟨hE, zs, hN, hz⟩ => ?_
  have hs1 := hw1.ext.size
  have hb2 := hw1.has _ (.head _)
  have hlt2 := hb2.lt
  have hm2 := (hw1.mine _ (.head _)).resolve_left id
  simp only at hlt2 hm2
  obtain ⟨A, c, hr, hcap, hmx⟩ := hN.own.slice
  subst hr
  refine GL.of_JL (C := Cls w2 _ [_]) (Cls.start1 (hb2.ext0 hE)) ?_
  have hfin : ∀ w4 : World, Ext (fun k => k = b2) w2 w4 → Ext No w w4 := fun w4 he => (hw1.ext.trans hE).then he fun k hk hd => by
    have hd' : k = b2 := hd
    omega
  repeat (first | (apply JL.y; (first | (apply Y_move; rfl) | (apply Y_assign; rfl) | (apply Y_len; rfl) | (apply Y_eql; rfl; rfl)); rfl) | refine J.seq ?_ | refine J.region ?_ | refine JL.nil ?_)
  cases zs with
  | nil =>
    have hs : St.srt Msg.lane ms = [] := hz.symm
    refine J.cond_t rfl ?_
    repeat (first | (apply JL.y; (first | (apply Y_assign; rfl) | (apply Y_build; rfl; exact inferInstance)); rfl) | refine J.seq ?_ | refine J.region ?_ | refine JL.nil ?_ | (apply JL.store; (apply St_W 0; rfl; rfl; rfl; exact inferInstance; rfl; rfl; (first | (focus (simp [Value.oneCell']; done)) | (simp [Value.oneCell']; assumption) | (simp [Value.oneCell']; exact ⟨by assumption, by assumption⟩)); (first | (focus (simp only [List.set_cons_zero]; done)) | (simp only [List.set_cons_zero]; rfl)))))
    refine J.ret2 Try.func33 Try.results33 (RV.W 0 rfl rfl rfl) (RV.tm rfl) fun w4 hw4 => ⟨_, rfl, hfin w4 hw4.ext, _, by rw [hs]; rfl, ?_⟩
    rw [hs]
    exact zero_msg w4 _
  | cons z zs =>
    have hs : St.srt Msg.lane ms = z.2 :: zs.map (·.2) := hz.symm
    have hzf := hN.own.el z (by simp)
    obtain ⟨ws, hws, hwr, hl8, ho⟩ := MsgC.open_ hzf
    have hRd := hN.reads
    obtain ⟨ad, _, e1⟩ := hRd.base (by omega) (by simp)
    cases e1
    have l1 := hRd.lds (P := Try.prog) (t := 33) (i := 0) (z := z) rfl
    have hbO : ∀ k, w1.heap.size ≤ k → ¬ k = b2 := fun k hk hkb => by omega
    have hzl : 0 < (z :: zs).length := by simp
    refine J.cond_f rfl ?_
    repeat (first | (apply JL.y; (apply Y_move; rfl); rfl) | refine J.seq ?_ | refine J.region ?_ | refine J.skip ?_)
    apply JL.y (Y_indexAddr rfl rfl (by omega)) rfl
    apply JL.y (Y_loadP rfl fun w hw => l1.at_ hw.ext fun k _ hk => hbO k hk) rfl
    rw [hws]
    unfold msgC
    repeat (first | (apply JL.y; (apply Y_assign; rfl); rfl) | refine JL.nil ?_ | (apply JL.store; (apply St_W 0; rfl; rfl; rfl; exact inferInstance; rfl; rfl; (first | (focus (simp [Value.oneCell']; done)) | (simp [Value.oneCell']; assumption) | (simp [Value.oneCell']; exact ⟨by assumption, by assumption⟩)); (first | (focus (simp only [List.set_cons_zero]; done)) | (simp only [List.set_cons_zero]; rfl)))))
    refine J.ret2 Try.func33 Try.results33 (RV.W 0 rfl rfl rfl) (RV.tm rfl) fun w4 hw4 => ⟨_, rfl, hfin w4 hw4.ext, _, by rw [hs]; rfl, ?_⟩
    rw [hs]
    refine (((RMsg.mk hwr hl8).ext hw4.ext fun k _ hk => hbO k hk.1)).mono fun k _ hk => Nat.le_trans hs1 hk.1
end Go.Proofs.Ytmkpbbdocndfbaa
/- law 10: the document's example. -/
namespace Go.Proofs.Ytmkpbbdocndfbaa
open Go.RowKit Go.Proofs
attribute [local irreducible] Yl JL J G GL GA GQ DR

theorem LTo.open_ {w w' : World} {g : Nat} {O E : Nat → Prop} {ln pl : Int} {ms : List Msg} (h : LTo w w' g O E ln pl ms) : Ext O w w' ∧ ∃ O' E', LObj w' g O' E' ln pl ms ∧ (∀ k, O' k → O k ∨ w.heap.size ≤ k) ∧ (∀ k, E' k → E k ∨ w.heap.size ≤ k) ∧ (∀ k, k < w.heap.size → ¬ O k → ¬ O' k) ∧ (∀ k, k < w.heap.size → ¬ E k → ¬ E' k) := by
  obtain ⟨h1, O', E', h2, h3, h4⟩ := h
  exact ⟨h1, O', E', h2, h3, h4, fun k hk hn hk' => by rcases h3 k hk' with h | h; exact hn h; omega, fun k hk hn hk' => by rcases h4 k hk' with h | h; exact hn h; omega⟩
theorem lit_msg (w : World) (ok : Nat → Prop) (a b c d : Int) : Foot (fun w => RMsg w (.agg (msgC (.slice none 0 0) ⟨[], a, b, c, d⟩).toArray) ⟨[], a, b, c, d⟩) w ok := Foot.pure fun w => ⟨_, rfl, RRow.nil w 1, by simp⟩

set_option maxHeartbeats 1000000 in
theorem lives10_spec (w : World) : Calls Try.prog 24 #[] w fun e w' => e = .returned (.bool true) ∧ Ext No w w' := by
  refine Calls.of_G0 Try.func24 rfl Try.ntmps24 ?_
  refine J.at (C := Cls w No []) ?_ (Cls.start _ _)
  repeat (first | (apply JL.y; (apply Y_assign; rfl); rfl) | refine J.seq ?_ | refine J.region ?_ | refine JL.nil ?_)
  refine JL.call _ rfl rfl (fun w1 hw1 => laneNew_spec) fun w1 r w2 hw1 ⟨g, hr, hE2, hg, hL2⟩ => ?_
  subst hr
  have hX2 : Ext No w w2 := hw1.ext.trans hE2
  have hs1 := hw1.ext.size
  rw [show cl 1 3 2 = 2 by decide, show cl 1 8 3 = 3 by decide] at hL2
  refine GL.of_JL (C := Cls w2 No []) (Cls.start _ _) ?_
  repeat (first | (apply JL.y; (first | (apply Y_move; rfl) | (apply Y_assign; rfl) | (apply Y_build; rfl; exact inferInstance)); rfl) | refine J.seq ?_ | refine J.region ?_ | refine JL.nil ?_)
  refine JL.call _ rfl rfl (fun w3 hw3 => lanePut_spec (hL2.ext0 hw3.ext) (lit_msg w3 No 1 0 9 1)) fun w3 r w4 hw3 ⟨hr, hLT⟩ => ?_
  subst hr
  rw [show putR 2 3 [] ⟨[], 1, 0, 9, 1⟩ = (0, [⟨[], 1, 0, 9, 1⟩]) by decide] at hLT ⊢
  obtain ⟨hE4, O4, E4, hL4, hO4, hE4', -, -⟩ := hLT.open_
  have hX3 := hX2.trans hw3.ext
  have hX4 : Ext No w w4 := hX3.then hE4 fun k hk hd => by
    have hd' : k = g := hd
    omega
  have hn4 : ∀ k, O4 k ∨ E4 k → w.heap.size ≤ k := fun k hk => by
    have := hX3.size
    rcases hk with hk | hk
    · rcases hO4 k hk with h | h
      · have h' : k = g := h
        omega
      · omega
    · rcases hE4' k hk with h | h
      · exact h.elim
      · omega
  refine GL.of_JL (C := Cls w4 No []) (Cls.start _ _) ?_
  repeat (first | (apply JL.y; (first | (apply Y_move; rfl) | (apply Y_build; rfl; exact inferInstance)); rfl))
  refine JL.call _ rfl rfl (fun w5 hw5 => lanePut_spec (hL4.ext0 hw5.ext) (lit_msg w5 No 0 0 9 2)) fun w5 r w6 hw5 ⟨hr, hLT⟩ => ?_
  subst hr
  rw [show putR 2 3 [⟨[], 1, 0, 9, 1⟩] ⟨[], 0, 0, 9, 2⟩ = (0, [⟨[], 1, 0, 9, 1⟩, ⟨[], 0, 0, 9, 2⟩]) by decide] at hLT ⊢
  obtain ⟨hE6, O6, E6, hL6, hO6, hE6', -, -⟩ := hLT.open_
  have hX5 := hX4.trans hw5.ext
  have hX6 : Ext No w w6 := hX5.then hE6 fun k hk hd => by have := hn4 k (.inl hd); omega
  have hn6 : ∀ k, O6 k ∨ E6 k → w.heap.size ≤ k := fun k hk => by
    have := hX5.size
    rcases hk with hk | hk
    · rcases hO6 k hk with h | h
      · exact hn4 k (.inl h)
      · omega
    · rcases hE6' k hk with h | h
      · exact hn4 k (.inr h)
      · omega
  refine GL.of_JL (C := Cls w6 No []) (Cls.start _ _) ?_
  repeat (first | (apply JL.y; (first | (apply Y_move; rfl) | (apply Y_assign; rfl)); rfl) | refine J.seq ?_ | refine J.region ?_ | refine JL.nil ?_)
  refine JL.call _ rfl rfl (fun w7 hw7 => laneTake_spec (hL6.ext0 hw7.ext)) fun w7 r w8 hw7 ⟨v8, hr, hF8, hLT⟩ => ?_
  subst hr
  rw [show takeR (St.srt Msg.lane [⟨[], 1, 0, 9, 1⟩, ⟨[], 0, 0, 9, 2⟩]) = (⟨[], 0, 0, 9, 2⟩, true, [⟨[], 1, 0, 9, 1⟩]) by decide] at hLT hF8 ⊢
  obtain ⟨hE8, O8, E8, hL8, hO8, hE8', -, -⟩ := hLT.open_
  have hX7 := hX6.trans hw7.ext
  have hX8 : Ext No w w8 := hX7.then hE8 fun k hk hd => by have := hn6 k (.inl hd); omega
  have hn8 : ∀ k, O8 k ∨ E8 k → w.heap.size ≤ k := fun k hk => by
    have := hX7.size
    rcases hk with hk | hk
    · rcases hO8 k hk with h | h
      · exact hn6 k (.inl h)
      · omega
    · rcases hE8' k hk with h | h
      · exact hn6 k (.inr h)
      · omega
  obtain ⟨ws8, rfl, hws8, _, ho8⟩ := RMsg.open_ hF8
  refine GL.of_JL (C := Cls w8 No []) (Cls.start _ _) ?_
  unfold msgC
  repeat (first | (apply JL.y; (first | (apply Y_move; rfl) | (apply Y_assign; rfl) | (apply Y_extract; rfl; rfl)); rfl) | refine J.seq ?_ | refine J.region ?_ | refine JL.nil ?_ | (apply JL.alloc; rfl; rfl; intro _) | (apply JL.store; (apply St_W 0; rfl; rfl; rfl; exact inferInstance; rfl; rfl; (first | (focus (simp [Value.oneCell']; done)) | (simp [Value.oneCell']; assumption) | (simp [Value.oneCell']; exact ⟨by assumption, by assumption⟩)); (first | (focus (simp only [List.set_cons_zero]; done)) | (simp only [List.set_cons_zero]; rfl)))))
  rename_i b4
  refine JL.call _ rfl rfl (fun w9 hw9 => lanePeek_spec (hL8.ext0 hw9.ext)) fun w9 r w10 hw9 ⟨hE10, v10, hr, hF10⟩ => ?_
  subst hr
  rw [show takeR (St.srt Msg.lane [⟨[], 1, 0, 9, 1⟩]) = (⟨[], 1, 0, 9, 1⟩, true, []) by decide] at hF10 ⊢
  obtain ⟨ws10, rfl, hws10, _, ho10⟩ := RMsg.open_ hF10
  refine GL.of_JL (C := Cls w8 No _) (hw9.ext0 hE10) ?_
  unfold msgC
  repeat (first | (apply JL.y; (first | (apply Y_move; rfl) | (apply Y_assign; rfl) | (apply Y_fieldAddr; rfl; rfl) | (apply Y_load1 0; rfl; rfl; rfl; exact inferInstance) | (apply Y_load1 1; rfl; rfl; rfl; exact inferInstance) | (apply Y_extract; rfl; rfl) | (apply Y_eql; rfl; rfl) | (apply Y_pick_t; rfl; rfl)); rfl) | refine J.seq ?_ | refine J.region ?_ | refine JL.nil ?_ | (apply JL.callq; rfl; rfl; (intro wc hwc; first | exact laneLen_spec (hL8.ext0 hwc.ext))) | (apply JL.alloc; rfl; rfl; intro _) | (apply JL.store; (apply St_W 0; rfl; rfl; rfl; exact inferInstance; rfl; rfl; (first | (focus (simp [Value.oneCell']; done)) | (simp [Value.oneCell']; assumption) | (simp [Value.oneCell']; exact ⟨by assumption, by assumption⟩)); (first | (focus (simp only [List.set_cons_zero]; done)) | (simp only [List.set_cons_zero]; rfl)))) | (apply JL.guard_yes; rfl; rfl; rfl))
  refine JL.call _ rfl rfl (fun w11 hw11 => laneSweep_spec (hL8.ext0 hw11.ext) 8) fun w11 r w12 hw11 ⟨zs, hO12, hr12, hz, hLT⟩ => ?_
  rw [show ((St.srt Msg.lane [⟨[], 1, 0, 9, 1⟩]).filter (late 8)) = [] by decide] at hz
  rw [show ((St.srt Msg.lane [⟨[], 1, 0, 9, 1⟩]).filter (fun m => !late 8 m)) = [⟨[], 1, 0, 9, 1⟩] by decide] at hLT
  obtain ⟨hE12, O12, E12, hL12, hO12', hE12', -, -⟩ := hLT.open_
  have hX11 := hX8.trans hw11.ext
  have hX12 : Ext No w w12 := hX11.then hE12 fun k hk hd => by have := hn8 k (.inl hd); omega
  obtain ⟨A, c, hr, _⟩ := hO12.slice
  have hzl : zs.length = 0 := by simpa using congrArg List.length hz
  subst hr
  rw [hzl]
  refine GL.of_JL (C := Cls w12 No []) (Cls.start _ _) ?_
  repeat (first | (apply JL.y; (first | (apply Y_move; rfl) | (apply Y_len; rfl) | (apply Y_eql; rfl; rfl) | (apply Y_pick_t; rfl; rfl)); rfl) | (apply JL.guard_yes; rfl; rfl; rfl))
  refine JL.call _ rfl rfl (fun w13 hw13 => laneSweep_spec (hL12.ext0 hw13.ext) 9) fun w13 r w14 hw13 ⟨zs, hO14, hr14, hz, hLT⟩ => ?_
  rw [show ((St.srt Msg.lane [⟨[], 1, 0, 9, 1⟩]).filter (late 9)) = [⟨[], 1, 0, 9, 1⟩] by decide] at hz
  have hn12 : ∀ k, O12 k → w.heap.size ≤ k := fun k hk => by
    have := hX11.size
    rcases hO12' k hk with h | h
    · exact hn8 k (.inl h)
    · omega
  have hE14 := hLT.1
  have hX14 : Ext No w w14 := (hX12.trans hw13.ext).then hE14 fun k hk hd => by have := hn12 k hd; omega
  obtain ⟨A, c, hr, _⟩ := hO14.slice
  have hzl : zs.length = 1 := by simpa using congrArg List.length hz
  subst hr
  rw [hzl]
  refine GL.of_JL (C := Cls w14 No []) (Cls.start _ _) ?_
  repeat (first | (apply JL.y; (first | (apply Y_assign; rfl) | (apply Y_len; rfl) | (apply Y_eql; rfl; rfl) | (apply Y_pick_t; rfl; rfl)); rfl) | refine JL.nil ?_ | (apply JL.guard_yes; rfl; rfl; rfl))
  exact J.ret1 Try.func24 Try.results24 (RV.tm rfl) fun w' hw' => ⟨rfl, hX14.trans hw'.ext⟩
end Go.Proofs.Ytmkpbbdocndfbaa
