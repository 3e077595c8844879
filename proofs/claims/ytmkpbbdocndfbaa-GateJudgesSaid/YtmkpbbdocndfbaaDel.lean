/- slices.DeleteFunc of messages: those of other lanes go. -/
import Derived.Test.YtmkpbbdocndfbaaLane1
namespace Go.Proofs.Ytmkpbbdocndfbaa
open Go.RowKit Go.Proofs

section
variable {P : Program} {f n : Nat} {R : Ending → World → Prop} {k : List Item} {e : Env} {C C' : World → Prop} {ops : Array Oper} {rest : List Oper} {ty t : TypeId} {pos : String} {aft : Array Edge} {x y : Operand}
/-- A store through a pointer. -/
theorem JL.storeP {p : Addr} {v : Value} (hx : opv e x = some (.pointer (some p))) (hy : opv e y = some v) (h : ∀ w, C w → ∃ w', (storeVar t p v).run P w = .ok () w' ∧ C' w')
    (hk : JL P f n R C' ops rest k e) : JL P f n R C ops (⟨none, .store t x y, ty, pos, aft, none⟩ :: rest) k e :=
  JL.st (fun a w ha hw => by
    obtain ⟨w', h1, h2⟩ := h w hw
    exact ⟨w', by simp [execOp, Instr.storeAt, Instr.sureAddr, ha.eval hx, ha.eval hy, h1], h2⟩) hk
/-- A built-in whose result nobody takes. -/
theorem JL.clear {v u : Value} (hx : opv e x = some v) (h : ∀ w, C w → ∃ w', (∀ ty, (Builtin.clear_ #[t] ty #[v]).run P w = .ok u w') ∧ C' w')
    (hk : JL P f n R C' ops rest k e) : JL P f n R C ops (⟨none, .call { callee := .builtin .clear, args := #[x], argTypes := #[t] }, ty, pos, aft, none⟩ :: rest) k e := by
  intro w hw a ha
  obtain ⟨w', h1, h2⟩ := h w hw
  exact wpList_val (v := u) rfl (by simp [execOp, resolve, invoke, builtin, ha.eval hx, h1]) (hk w' h2 _ (ha.put0 _))
end

attribute [local irreducible] Yl JL J G GL GA GQ DR
theorem zeroCells_spec (zc : List Value) (n : Nat) (h : ∀ u ∈ zc, u.oneCell' = true) : (Builtin.zeroCells zc.toArray n).toList.length = n * zc.length ∧ ∀ u ∈ (Builtin.zeroCells zc.toArray n).toList, u.oneCell' = true := by
  refine ⟨by simp [Builtin.zeroCells], fun u hu => ?_⟩
  simp only [Builtin.zeroCells, Array.toList_map, List.mem_map, Array.toList_range, List.mem_range, List.size_toArray] at hu
  obtain ⟨i, hi, rfl⟩ := hu
  have hz : 0 < zc.length := by
    rcases Nat.eq_zero_or_pos zc.length with h0 | h0
    · rw [h0] at hi; omega
    · exact h0
  have hl : i % zc.length < zc.length := Nat.mod_lt _ hz
  rw [getElem!_pos zc.toArray (i % zc.length) (by simpa using hl)]
  exact h _ (by simp)
/-- What lies behind element i is cleared. -/
theorem run_clear_row {P : Program} {t elt : TypeId} {sz e g m c i : Nat} {zc : List Value} {w : World} {chs : List (List Value)} [hs : SI P t elt sz] [hz : TI P elt true sz (.agg zc.toArray)] (hzl : zc.length = sz) (hz1 : ∀ u ∈ zc, u.oneCell' = true) (h : Row w e sz (.slice (some ⟨g, 0, none⟩) m c) chs) (hi : i ≤ m) :
    ∃ w', (∀ ty, (Builtin.clear_ #[t] ty #[.slice (cutA (some ⟨g, 0, none⟩) c i sz) (m - i) (c - i)]).run P w = .ok (.tuple #[]) w') ∧ Row w' e sz (.slice (some ⟨g, 0, none⟩) i c) (chs.take i) ∧ Ext (fun k => k = g) w w' := by
  have hm : m = chs.length := by obtain ⟨_, _, hv, _⟩ := h.slice; cases hv; rfl
  by_cases hmi : m - i = 0
  · refine ⟨w, fun ty => ?_, h.take rfl (by omega), .refl _ _⟩
    rw [hmi]
    unfold cutA
    split <;> simp [Builtin.clear_, run_underlying hs.und]
  obtain ⟨g', cap, cur, hv, hb, hc1, hc2, hcs, htk⟩ := h.block (by omega)
  cases hv
  obtain ⟨n, hn⟩ : ∃ n, chs.length - i = n + 1 := ⟨chs.length - i - 1, by omega⟩
  obtain ⟨hl, ho⟩ := zeroCells_spec zc (n + 1) hz1
  have hbound : i * sz + (n + 1) * sz ≤ c * sz := by rw [← Nat.add_mul]; exact Nat.mul_le_mul_right _ (by omega)
  have hst := run_storeCells_at P g (i * sz) e (Builtin.zeroCells zc.toArray (n + 1)).toList 0 cur w hb (by rw [hl, hzl, hcs]; omega) ho
  refine ⟨w.setRow g (cur.toList.take (i * sz + 0) ++ (Builtin.zeroCells zc.toArray (n + 1)).toList ++ cur.toList.drop (i * sz + 0 + (Builtin.zeroCells zc.toArray (n + 1)).toList.length)).toArray, fun ty => ?_, ?_, Ext.setRow w g _ rfl⟩
  · rw [hn]
    unfold cutA
    rw [if_neg (by omega)]
    simp only [Option.map_some, add_lit, Nat.zero_add]
    simp [Builtin.clear_, run_underlying hs.und, hz.zero, Value.cells, hst]
  · rw [hl, hzl]
    have hT := h.take rfl (i := i) (by omega)
    refine ⟨hT.1, hT.2.1, .inr ⟨g, c, _, by rw [List.length_take, Nat.min_eq_left (by omega)], Nat.zero_le _, setRow_heap w g cur _ e _ hb, by rw [List.length_take]; omega, hc2, ?_, ?_⟩⟩
    · simp only [List.size_toArray, List.length_append, List.length_take, List.length_drop, Array.length_toList, hl, hzl, hcs, Nat.add_zero]; omega
    · rw [List.length_take, Nat.min_eq_left (by omega), ← flatten_take chs sz i h.1, ← htk]
      have hle : i * sz ≤ chs.length * sz := Nat.mul_le_mul_right _ (by omega)
      have hle2 : chs.length * sz ≤ c * sz := Nat.mul_le_mul_right _ (by omega)
      rw [List.append_assoc, List.take_append, List.take_take, Nat.min_eq_left (by omega), List.take_take, Nat.min_eq_left (by omega)]
      simp only [Nat.add_zero, List.length_take, Array.length_toList, hcs]
      rw [Nat.min_eq_left (by omega), Nat.sub_self, List.take_zero, List.append_nil]

def LaneAt (lb : Nat) (q : Int) (w : World) : Prop := BlkIn w ⟨lb, [.int .i64 q], 3⟩
/-- The closure that lane.Of hands over. -/
theorem ofC_spec {w : World} {lb : Nat} {q : Int} (hk : LaneAt lb q w) (ws : Value) (m : Msg) :
    Calls Try.prog 114 #[.agg (msgC ws m).toArray, .pointer (some ⟨lb, 0, none⟩)] w fun e w' => e = .returned (.bool (decide (m.lane ≠ q))) ∧ Ext No w w' := by
  have hl : Foot (Lds Try.prog 3 ⟨lb, 0, none⟩ (.int .i64 q)) w (fun k => k = lb) := (BlkIn.foot hk).imp fun w hb => Lds.one hb rfl
  refine Calls.of_G2 Try.func114 rfl Try.ntmps114 rfl ?_
  refine J.at (C := Cls w No []) ?_ (Cls.start _ _)
  unfold msgC
  repeat (first | (apply JL.y; (first | (apply Y_assign; rfl) | (apply Y_fieldAddr; rfl; rfl) | (apply Y_load1 0; rfl; rfl; rfl; exact inferInstance) | (apply Y_loadP; rfl; (intro wc hwc; first | exact hl.at_ hwc.ext fun _ _ _ h => h)) | (apply Y_neq; rfl; rfl)); rfl) | refine J.seq ?_ | refine J.region ?_ | refine JL.nil ?_ | (apply JL.box; rfl; rfl; rfl; intro _))
  exact J.ret1 Try.func114 Try.results114 (RV.tm rfl) fun w' hw' => ⟨rfl, hw'.ext⟩
abbrev ofV (lb : Nat) : Value := .func (.func 114) #[] #[.pointer (some ⟨lb, 0, none⟩)]

set_option maxHeartbeats 1000000 in
/-- slices.IndexFunc of messages. -/
theorem indexMsg_spec {w : World} {lb : Nat} {q : Int} {v : Value} {ts : List (Value × Msg)} (hrow : MRow w v ts) (hn : ts.length ≤ 1000000) (hone : Ones ts) (hk : LaneAt lb q w) :
    Calls Try.prog 147 #[v, ofV lb] w fun e w' => ∃ r, e = .returned r ∧ Ext No w w' ∧ ∃ i : Int, r = .int .i64 i ∧ ((i = -1 ∧ ∀ p ∈ ts, p.2.lane = q) ∨ (∃ j : Nat, i = j ∧ j < ts.length ∧ (∀ p ∈ ts.take j, p.2.lane = q) ∧ ∀ p, ts[j]? = some p → p.2.lane ≠ q)) := by
  obtain ⟨A, c, rfl, hc, hm⟩ := Row.slice hrow
  rw [List.length_map] at hrow hc ⊢
  refine Calls.of_G2 Try.func147 rfl Try.ntmps147 rfl ?_
  refine J.at (C := Cls w No []) ?_ (Cls.start _ _)
  repeat (first | (apply JL.y; (first | (apply Y_move; rfl) | (apply Y_assign; rfl) | (apply Y_len; rfl)); rfl) | refine J.seq ?_ | refine J.region ?_ | refine JL.nil ?_ | refine J.block ?_)
  refine J.intro fun wl hwl => G.loop (Inv := fun mm e wl => ∃ (j : Nat), j ≤ ts.length ∧ mm = ts.length - j ∧ (∀ p ∈ ts.take j, p.2.lane = q) ∧ Ext No w wl ∧ e = [(0, .slice A ts.length c), (1, ofV lb), (7, .int .i64 ts.length), (8, .int .i64 j)])
    _ _ ⟨0, Nat.zero_le _, rfl, by simp, hwl.ext, rfl⟩ ⟨rfl, rfl, rfl, rfl, trivial⟩ ?_
  rintro mm e w1 ⟨j, hj, rfl, hlo, hE, rfl⟩ ih
  refine J.at (C := Cls w1 No []) ?_ (Cls.start _ _)
  repeat (first | (apply JL.y; (apply Y_lss; rfl; rfl); rfl) | refine J.seq ?_ | refine J.region ?_ | refine JL.nil ?_)
  refine J.cond_d rfl (fun hlt => ?_) (fun hlt => ?_)
  case refine_2 =>
    repeat (first | (apply JL.y; (apply Y_assign; rfl); rfl) | refine J.seq ?_ | refine J.region ?_ | refine JL.nil ?_ | (apply J.exit; rfl))
    exact J.ret1 Try.func147 Try.results147 (RV.tm rfl) fun w' hw => ⟨_, rfl, hE.trans hw.ext, _, rfl, .inl ⟨rfl, by rw [List.take_of_length_le (by omega)] at hlo; exact hlo⟩⟩
  have hjl : j < ts.length := by omega
  obtain ⟨p, hp⟩ : ∃ p, ts[j]? = some p := ⟨_, List.getElem?_eq_getElem hjl⟩
  obtain ⟨g, hA⟩ := hrow.ad (by omega)
  subst hA
  have hop : p.1.oneCell' = true := hone p (List.mem_of_getElem? hp)
  have lp := (hrow.lds hp rfl).ext0 hE
  repeat (first | (apply JL.y; (first | (apply Y_move; rfl) | (apply Y_assign; rfl)); rfl) | refine J.seq ?_ | refine J.region ?_ | refine JL.nil ?_ | refine J.skip ?_ | refine J.block ?_)
  apply JL.y (Y_indexAddr rfl rfl (by omega)) rfl
  apply JL.y (Y_loadP rfl fun w hw => lp.at_ hw.ext fun _ _ _ h => h) rfl
  repeat (first | refine JL.nil ?_ | (apply JL.callqC; rfl; exact inferInstance; rfl; rfl; (intro wc hwc; first | exact ofC_spec (BlkIn.ext0 (BlkIn.ext0 hk hE) hwc.ext) _ _)))
  refine J.cond_d rfl (fun hne => ?_) (fun hne => ?_)
  · repeat (first | (apply JL.y; (first | (apply Y_move; rfl) | (apply Y_assign; rfl)); rfl) | refine J.seq ?_ | refine J.region ?_ | refine JL.nil ?_)
    exact J.ret1 Try.func147 Try.results147 (RV.tm rfl) fun w' hw => ⟨_, rfl, hE.trans hw.ext, _, rfl, .inr ⟨j, rfl, hjl, hlo, fun p' hp' => by rw [hp] at hp'; cases hp'; exact hne⟩⟩
  · repeat (first | (apply JL.y; (first | (apply Y_move; rfl) | (apply Y_add; rfl; rfl; omega)); rfl) | refine J.region ?_ | refine JL.nil ?_ | refine J.skip ?_ | refine J.inBlock ?_)
    refine J.intro fun w2 hw2 => ih (ts.length - (j + 1)) (by omega) _ _ w2 ?_ ⟨j + 1, hjl, rfl, fun p' hp' => ?_, hE.trans hw2.ext, rfl⟩
    · exact ⟨rfl, rfl, rfl, rfl, trivial⟩
    · rw [take_snoc hp] at hp'
      rcases List.mem_append.1 hp' with hp' | hp'
      · exact hlo p' hp'
      · simp at hp'; subst hp'; exact Classical.not_not.1 hne

def keepq (q : Int) (p : Value × Msg) : Bool := decide (p.2.lane = q)
set_option maxHeartbeats 2000000 in
/-- slices.DeleteFunc of messages. -/
theorem deleteMsg_spec {w : World} {lb : Nat} {q : Int} {v : Value} {ts : List (Value × Msg)} (hrow : MRow w v ts) (hn : ts.length ≤ 1000000) (hone : Ones ts) (hk : LaneAt lb q w) (hlb : v.ownBlock ≠ some lb) :
    Calls Try.prog 113 #[v, ofV lb] w fun e w' => ∃ r, e = .returned r ∧ Ext (fun k => v.ownBlock = some k) w w' ∧ MRow w' r (ts.filter (keepq q)) ∧ r.ownBlock = v.ownBlock := by
  obtain ⟨A, c, rfl, hc, hm⟩ := Row.slice hrow
  rw [List.length_map] at hrow hc hlb ⊢
  refine Calls.of_G2 Try.func113 rfl Try.ntmps113 rfl ?_
  refine J.at (C := Cls w No []) ?_ (Cls.start _ _)
  repeat (first | (apply JL.y; (first | (apply Y_move; rfl) | (apply Y_assign; rfl)); rfl) | refine J.seq ?_ | refine J.region ?_ | refine JL.nil ?_)
  refine JL.call _ rfl rfl (fun w1 hw1 => indexMsg_spec (hrow.ext0 hw1.ext) hn hone (BlkIn.ext0 hk hw1.ext)) fun w1 r w2 hw1 ⟨hE, i, hr, hi⟩ => ?_
  subst hr
  refine GL.of_JL (C := Cls w2 No []) (Cls.start _ _) ?_
  have hE2 := hw1.ext.trans hE
  repeat (first | (apply JL.y; (first | (apply Y_move; rfl) | (apply Y_assign; rfl) | (apply Y_eql; rfl; rfl)); rfl) | refine J.seq ?_ | refine J.region ?_ | refine JL.nil ?_)
  rcases hi with ⟨rfl, hall⟩ | ⟨j, rfl, hjl, hlo, hne⟩
  · refine J.cond_d rfl (fun h => ?_) (fun h => absurd rfl h)
    repeat (first | (apply JL.y; (first | (apply Y_move; rfl) | (apply Y_assign; rfl)); rfl) | refine J.seq ?_ | refine J.region ?_ | refine JL.nil ?_)
    exact J.ret1 Try.func113 Try.results113 (RV.tm rfl) fun w' hw => ⟨_, rfl, (hE2.trans hw.ext).no, ((hrow.ext0 hE2).ext0 hw.ext).eq (List.filter_eq_self.2 fun p hp => by simp [keepq, hall p hp]).symm, rfl⟩
  refine J.cond_d rfl (fun h => by exfalso; omega) (fun h => ?_)
  obtain ⟨g, hA⟩ := hrow.ad (by omega)
  subst hA
  have hlg : lb ≠ g := fun h => hlb (by rw [h]; rfl)
  obtain ⟨p0, hp0⟩ : ∃ p, ts[j]? = some p := ⟨_, List.getElem?_eq_getElem hjl⟩
  have hk0 : ts.take j = (ts.take j).filter (keepq q) := (List.filter_eq_self.2 fun p hp => by simp [keepq, hlo p hp]).symm
  have hf1 : (ts.take (j + 1)).filter (keepq q) = ts.take j := by
    rw [take_snoc hp0, List.filter_append, ← hk0]
    simp [keepq, hne p0 hp0]
  have htl : (ts.take j).length = j := by rw [List.length_take]; omega
  repeat (first | (apply JL.y; (first | (apply Y_move; rfl) | (apply Y_assign; rfl) | (apply Y_add; rfl; rfl; omega)); rfl) | refine J.seq ?_ | refine J.region ?_ | refine JL.nil ?_ | refine J.skip ?_ | refine J.block ?_)
  refine J.intro fun wl hwl => G.loop (Inv := fun mm e wl => ∃ (t : Nat) (K X : List (Value × Msg)) (i j : Int), t ≤ ts.length ∧ mm = ts.length - t ∧ j = t ∧ i = K.length ∧ K = (ts.take t).filter (keepq q) ∧ K.length + X.length = t ∧ 0 < X.length ∧ Ones X ∧ Ext (fun k => k = g) w wl ∧ MRow wl (.slice (some ⟨g, 0, none⟩) ts.length c) (K ++ X ++ ts.drop t) ∧ e = [(0, .slice (some ⟨g, 0, none⟩) ts.length c), (1, ofV lb), (5, .int .i64 i), (6, .int .i64 j)])
    _ _ ⟨j + 1, ts.take j, [p0], j, j + 1, hjl, rfl, by omega, by omega, hf1.symm, by simp; omega, by simp, fun p hp => by simp at hp; subst hp; exact hone _ (List.mem_of_getElem? hp0), (hE2.trans hwl.ext).no, ((hrow.ext0 hE2).ext0 hwl.ext).eq ?_, rfl⟩ ⟨rfl, rfl, rfl, rfl, trivial⟩ ?_
  · rw [← take_snoc hp0, List.take_append_drop]
  rintro mm e w1 ⟨t, K, X, i, j, ht, rfl, hj, hi, hK, hKX, hX, hoX, hE3, hR, rfl⟩ ih
  refine J.at (C := Cls w1 No []) ?_ (Cls.start _ _)
  repeat (first | (apply JL.y; (first | (apply Y_move; rfl) | (apply Y_len; rfl) | (apply Y_lss; rfl; rfl)); rfl) | refine J.seq ?_ | refine J.region ?_ | refine JL.nil ?_)
  refine J.cond_d rfl (fun hlt => ?_) (fun hlt => ?_)
  case refine_2 =>
    have htt : t = ts.length := by omega
    subst htt
    repeat (first | (apply JL.y; (apply Y_move; rfl); rfl) | refine J.seq ?_ | refine J.region ?_ | (apply J.exit; rfl))
    apply JL.y (Y_slice_l rfl rfl (by omega)) rfl
    apply JL.clear (C' := fun w' => MRow w' (.slice (some ⟨g, 0, none⟩) i.toNat c) K ∧ Ext (fun k => k = g) w1 w') (u := .tuple #[])
    · rfl
    · intro w5 hw5
      obtain ⟨w6, h1, h2, h3⟩ := run_clear_row (P := Try.prog) (t := 26) (zc := [.slice none 0 0, .int .i64 0, .int .i64 0, .int .i64 0, .int .i64 0]) (i := i.toNat) rfl (by simp [Value.oneCell']) (hR.ext0 hw5.ext) (by omega)
      refine ⟨w6, h1, ?_, hw5.ext.no.trans h3⟩
      unfold MRow
      rw [← List.map_take] at h2
      have : (K ++ X ++ ts.drop ts.length).take i.toNat = K := by
        rw [show i.toNat = K.length by omega, List.append_assoc, List.take_left]
      rw [this] at h2
      exact h2
    refine JL.intro fun w5 ⟨hR5, hE5⟩ => ?_
    refine GL.of_JL (C := Cls w5 No []) (Cls.start _ _) ?_
    repeat (first | (apply JL.y; (apply Y_move; rfl); rfl) | refine J.seq ?_ | refine J.region ?_ | refine JL.nil ?_)
    apply JL.y (Y_slice_h rfl rfl (by omega)) rfl
    repeat (first | (apply JL.y; (apply Y_assign; rfl); rfl) | refine JL.nil ?_)
    refine J.ret1 Try.func113 Try.results113 (RV.tm rfl) fun w' hw => ⟨_, rfl, ((hE3.trans hE5).trans hw.ext.no).mono fun k _ hk => by simp [Value.ownBlock]; exact hk.symm, (hR5.ext0 hw.ext).eq (by rw [hK, List.take_length]), rfl⟩
  obtain ⟨p, hp⟩ : ∃ p, ts[t]? = some p := ⟨_, List.getElem?_eq_getElem (by omega)⟩
  have hop : p.1.oneCell' = true := hone p (List.mem_of_getElem? hp)
  have hdrop : ts.drop t = p :: ts.drop (t + 1) := by
    rw [List.drop_eq_getElem_cons (by omega)]
    rw [List.getElem?_eq_getElem (by omega)] at hp
    cases hp; rfl
  rw [hdrop] at hR
  have hKXl : (K ++ X).length = t := by simp; omega
  have lp := hR.lds (far_1 (K ++ X) p (ts.drop (t + 1)) rfl) (q := j.toNat * 5) (by omega)
  repeat (first | (apply JL.y; (apply Y_move; rfl); rfl) | refine J.seq ?_ | refine J.region ?_ | refine J.skip ?_ | refine J.block ?_)
  apply JL.y (Y_indexAddr rfl rfl (by omega)) rfl
  apply JL.y (Y_loadP rfl fun w hw => lp.at_ hw.ext fun _ _ _ h => h) rfl
  have hk3 : LaneAt lb q w1 := BlkIn.keep hk hE3 hlg
  unfold msgC
  repeat (first | (apply JL.y; (first | (apply Y_move; rfl) | (apply Y_loadW 0; rfl; rfl; exact inferInstance; rfl) | (apply Y_not_d; rfl)); rfl) | refine J.seq ?_ | refine J.region ?_ | refine JL.nil ?_ | (apply JL.callqC; rfl; exact inferInstance; rfl; rfl; (intro wc hwc; first | exact ofC_spec (BlkIn.ext0 hk3 hwc.ext) _ _)) | (apply JL.alloc; rfl; rfl; intro _) | (apply JL.store; (apply St_W 0; rfl; rfl; rfl; exact inferInstance; rfl; rfl; (first | (focus (simp [Value.oneCell']; done)) | (simp [Value.oneCell']; assumption) | (simp [Value.oneCell']; exact ⟨by assumption, by assumption⟩)); (first | (focus (simp only [List.set_cons_zero]; done)) | (simp only [List.set_cons_zero]; rfl)))))
  refine J.cond_d rfl (fun hq => ?_) (fun hq => ?_)
  · have hq' : p.2.lane = q := Classical.not_not.1 hq
    obtain ⟨x, X', rfl⟩ : ∃ x X', X = x :: X' := by
      cases X with
      | nil => simp at hX
      | cons x X => exact ⟨x, X, rfl⟩
    have hR' := hR.eq (ts' := K ++ x :: (X' ++ p :: ts.drop (t + 1))) (by simp)
    repeat (first | (apply JL.y; (first | (apply Y_move; rfl) | (apply Y_loadW 0; rfl; rfl; exact inferInstance; rfl)); rfl) | refine J.seq ?_ | refine J.region ?_)
    apply JL.y (Y_indexAddr rfl rfl (by simp at hKXl; omega)) rfl
    apply JL.storeP (C' := fun w' => MRow w' (.slice (some ⟨g, 0, none⟩) ts.length c) ((K ++ x :: (X' ++ p :: ts.drop (t + 1))).set K.length p) ∧ Ext (fun k => k = g) w1 w') rfl rfl
    · intro w5 hw5
      obtain ⟨w6, h1, h2, h3⟩ := MRow.set (hR'.ext0 hw5.ext) (i := K.length) (p := p) (q := i.toNat * 5) (by simp) hop (by omega)
      exact ⟨w6, h1, h2, hw5.ext.no.trans h3⟩
    refine JL.intro fun w5 ⟨hR5, hE5⟩ => ?_
    refine GL.of_JL (C := Cls w5 No []) (Cls.start _ _) ?_
    repeat (first | (apply JL.y; (first | (apply Y_move; rfl) | (apply Y_assign; rfl) | (apply Y_add; rfl; rfl; omega)); rfl) | refine J.region ?_ | refine JL.nil ?_ | refine J.inBlock ?_)
    refine J.intro fun w2 hw2 => ih (ts.length - (t + 1)) (by omega) _ _ w2 ?_ ⟨t + 1, K ++ [p], X' ++ [p], i + 1, j + 1, by omega, rfl, by omega, by simp; omega, ?_, by simp at hKX ⊢; omega, by simp, fun p' hp' => ?_, (hE3.trans hE5).trans hw2.ext.no, (hR5.ext0 hw2.ext).eq ?_, rfl⟩
    · exact ⟨rfl, rfl, rfl, rfl, trivial⟩
    · rw [take_snoc hp, List.filter_append, ← hK]; simp [keepq, hq']
    · rcases List.mem_append.1 hp' with hp' | hp'
      · exact hoX p' (.tail _ hp')
      · simp at hp'; subst hp'; exact hop
    · rw [List.set_append_right _ _ (by omega)]; simp
  · have hq' : ¬ p.2.lane = q := fun h => hq fun h2 => h2 h
    repeat (first | (apply JL.y; (first | (apply Y_move; rfl) | (apply Y_assign; rfl) | (apply Y_add; rfl; rfl; omega)); rfl) | refine J.region ?_ | refine JL.nil ?_ | refine J.skip ?_ | refine J.inBlock ?_)
    refine J.intro fun w2 hw2 => ih (ts.length - (t + 1)) (by omega) _ _ w2 ?_ ⟨t + 1, K, X ++ [p], i, j + 1, by omega, rfl, by omega, hi, ?_, by simp; omega, by simp, fun p' hp' => ?_, hE3.trans hw2.ext.no, (hR.ext0 hw2.ext).eq (by simp), rfl⟩
    · exact ⟨rfl, rfl, rfl, rfl, trivial⟩
    · rw [take_snoc hp, List.filter_append, ← hK]; simp [keepq, hq']
    · rcases List.mem_append.1 hp' with hp' | hp'
      · exact hoX p' hp'
      · simp at hp'; subst hp'; exact hop
end Go.Proofs.Ytmkpbbdocndfbaa
