/- law 10: LaneSame, the walk. -/
import Derived.Test.YtmkpbbdocndfbaaLaw10a
namespace Go.Proofs.Ytmkpbbdocndfbaa
open Go.RowKit Go.Proofs

attribute [local irreducible] JL J G GL GA GQ DR
/-- Where ways come together again, with what is known there of both the slots and the world. -/
theorem J.joinP {P : Program} {f n : Nat} {R : Ending → World → Prop} {k : List Item} {e : Env} {C : World → Prop} {α : Type} {i : Item} (C2 : α → World → Prop) (F : α → Env) (h1 : ∀ k', (∀ a, J P f n R (C2 a) k' (F a)) → J P f n R C (i :: k') e) (h2 : ∀ a, J P f n R (C2 a) k (F a)) : J P f n R C (i :: k) e := h1 k h2
theorem run_append0 {P : Program} {t el ty : TypeId} {sz : Nat} [h : SI P t el sz] (A : Option Addr) (c : Nat) (w : World) : (Builtin.append_ #[t, t] ty #[.slice none 0 0, .slice A 0 c]).run P w = .ok (.slice none 0 0) w := by
  cases A <;> simp [Builtin.append_, run_underlying h.und, h.sizeOf, Builtin.lenOf, Builtin.firstCells, loadCells, loadCellsFrom]
section
variable {P : Program} {n : Nat} {e : Env} {C : World → Prop} {ty t el sz : Nat} {pos : String} {aft : Array Edge} {dst : Option Tmp} {gd : Option (Nat × Bool)} {x y : Operand}
theorem Y_append0 [h : SI P t el sz] {A : Option Addr} {c : Nat} (hx : opv e x = some (.slice none 0 0)) (hy : opv e y = some (.slice A 0 c)) : Yl P C n e ⟨dst, .call { callee := .builtin .append, args := #[x, y], argTypes := #[t, t] }, ty, pos, aft, gd⟩ (.slice none 0 0) := fun a w ha _ => by
  simp [execOp, resolve, invoke, builtin, ha.eval hx, ha.eval hy, run_append0 (P := P) (t := t)]
theorem run_eqB {P : Program} {t : TypeId} (hu : P.underlying t = some .bool) (b : Bool) (w : World) : (Op.equal t (.bool b) (.bool b)).run P w = .ok true w := by
  unfold Op.equal Op.maxDepth
  rw [Op.equalIn]
  simp [run_underlying hu]
theorem Y_eqlB {t2 : TypeId} {b : Bool} (hu : P.underlying t = some .bool) (hx : opv e x = some (.bool b)) (hy : opv e y = some (.bool b)) : Yl P C n e ⟨dst, .binOp .eql t x y t2, ty, pos, aft, gd⟩ (.bool true) := fun a w ha _ => by
  simp [execOp, ha.eval hx, ha.eval hy, eqGuard, binOp, run_eqB hu]
end
attribute [local irreducible] Yl
theorem list_set_at (cs : List Value) (o : Nat) (v : Value) (h : o < cs.length) : cs.take o ++ [v] ++ cs.drop (o + 1) = cs.set o v := by
  rw [List.set_eq_take_append_cons_drop, if_pos h]; simp
theorem list_set_in (cs ch : List Value) (o s j : Nat) (v : Value) (hch : (cs.drop o).take s = ch) (hl : ch.length = s) (hj : j < s) (ho : o + s ≤ cs.length) : cs.take o ++ ch.set j v ++ cs.drop (o + s) = cs.set (o + j) v := by
  have h1 : cs = cs.take o ++ (ch ++ cs.drop (o + s)) := by
    rw [← hch]
    conv => lhs; rw [← List.take_append_drop o cs, ← List.take_append_drop s (cs.drop o)]
    rw [List.drop_drop]
  conv => rhs; rw [h1]
  have hto : (cs.take o).length = o := by rw [List.length_take]; omega
  rw [List.set_append_right _ _ (by omega), hto, Nat.add_sub_cancel_left, List.set_append_left _ _ (by omega)]
  simp
/-- One cell of an element of a row of one's own is stored. -/
theorem Row.store1 {P : Program} {w : World} {e sz g m c i j : Nat} {t t5 : TypeId} {zv z5 v : Value} {chs : List (List Value)} {ch : List Value} [h5 : TI P t5 true sz z5] [h1 : TI P t false 1 zv] (h : Row w e sz (.slice (some ⟨g, 0, none⟩) m c) chs) (hi : chs[i]? = some ch) (hj : j < sz) (hch : ∀ u ∈ ch, u.oneCell' = true) (hv : v.oneCell' = true) :
    ∃ w', (storeVar t ⟨g, i * sz + j, none⟩ v).run P w = .ok () w' ∧ Row w' e sz (.slice (some ⟨g, 0, none⟩) m c) (chs.set i (ch.set j v)) ∧ Ext (fun k => k = g) w w' := by
  have hil := (List.getElem?_eq_some_iff.1 hi).1
  have hcl : ch.length = sz := h.1 ch (List.mem_of_getElem? hi)
  obtain ⟨g', cap, cur, hv', hb, hc1, hc2, hcs, htk⟩ := h.block (by omega)
  cases hv'
  have hmul : (i + 1) * sz ≤ c * sz := Nat.mul_le_mul_right _ (by omega)
  have hmul2 : (i + 1) * sz ≤ chs.length * sz := Nat.mul_le_mul_right _ (by omega)
  rw [Nat.add_mul] at hmul hmul2
  have hb' : w.heap[g]? = some (.cells cur.toList.toArray e (0, 0)) := by simpa using hb
  have ho : ∀ u ∈ ch.set j v, u.oneCell' = true := fun u hu => by
    rcases List.mem_or_eq_of_mem_set hu with hu | rfl
    · exact hch u hu
    · exact hv
  obtain ⟨w', hw1, hw2, hw3⟩ := Row.store (P := P) (t := t5) h rfl (i := i) hil (x := .agg (ch.set j v).toArray) (l := ch.set j v) rfl (by rw [List.length_set]; exact hcl) ho
  have hA := run_storeVar (P := P) (t := t5) (v := .agg (ch.set j v).toArray) (l := ch.set j v) (o := i * sz) hb' rfl (by rw [List.length_set]; exact hcl) (by simp [hcs]; omega) ho
  have hB := run_storeVar (P := P) (t := t) (v := v) (l := [v]) (o := i * sz + j) hb' (by cases v <;> simp [Value.oneCell', Value.cells] at hv ⊢) rfl (by simp [hcs]; omega) (by simpa using hv)
  rw [add_lit, Nat.zero_add, hA] at hw1
  have hL : cur.toList.take (i * sz) ++ ch.set j v ++ cur.toList.drop (i * sz + sz) = cur.toList.take (i * sz + j) ++ [v] ++ cur.toList.drop (i * sz + j + 1) := by
    rw [list_set_at _ _ _ (by simp [hcs]; omega)]
    refine list_set_in _ _ _ _ _ _ ?_ hcl hj (by simp [hcs]; omega)
    have h3 : ((cur.toList.take (chs.length * sz)).drop (i * sz)).take sz = ch := by
      rw [htk, flatten_drop chs sz i h.1, List.drop_eq_getElem_cons hil, List.flatten_cons]
      have : chs[i] = ch := by rw [List.getElem?_eq_getElem hil] at hi; cases hi; rfl
      rw [this, ← hcl, List.take_left]
    rw [List.drop_take, List.take_take, Nat.min_eq_left (by omega)] at h3
    exact h3
  rw [hL] at hw1
  cases hw1
  exact ⟨_, hB, hw2, hw3⟩
/-- A list made since w0, of messages whose words lie in what was there. -/
structure Lst (w0 w : World) (v : Value) (zs : Zs) : Prop where
  own : Own 33 5 MsgC w (fun k => k < w0.heap.size) v zs
  new : ∀ k, v.ownBlock = some k → w0.heap.size ≤ k
section
variable {w0 w w1 : World} {v v' : Value} {zs : Zs} {D : Nat → Prop}
theorem Lst.nil (w0 w : World) : Lst w0 w (.slice none 0 0) [] := ⟨Own.nil _ _ _ _ _, fun k hk => by simp [Value.ownBlock] at hk⟩
theorem Lst.ext (h : Lst w0 w v zs) (he : Ext D w w1) (hD : ∀ k, k < w.heap.size → D k → w0.heap.size ≤ k ∧ v.ownBlock ≠ some k) : Lst w0 w1 v zs :=
  ⟨h.own.ext he (fun g hg hd => (hD g (h.own.row.lt hg) hd).2 hg) (fun k hk ho hd => by have := (hD k hk hd).1; omega), h.new⟩
theorem Lst.ext0 (h : Lst w0 w v zs) (he : Ext No w w1) : Lst w0 w1 v zs := h.ext he fun _ _ h => h.elim
theorem Lst.app (h : Lst w0 w v zs) {c : List Value} {m : Msg} (hrow : Row w1 33 5 v' (zs.map (·.1) ++ [c])) (ha : Apd w w1 v v') (hx : Foot (fun w => MsgC w c m) w (fun k => k < w0.heap.size)) (hs : w0.heap.size ≤ w.heap.size) : Lst w0 w1 v' (zs ++ [(c, m)]) := by
  have hn : ∀ k, v'.ownBlock = some k → w0.heap.size ≤ k := fun k hk => by
    rcases ha.at_ with h1 | h1 <;> rw [h1] at hk
    · exact h.new k hk
    · injection hk with hk; omega
  refine ⟨(h.own.append hrow ha hx fun k _ hk hv => by have := h.new k hv; omega).mono (fun k _ hk => by rcases hk.1 with h1 | h1 <;> exact h1) (fun k hk hv => by have := hn k hv; omega), hn⟩
theorem Lst.rd (h : Lst w0 w v zs) : Rd 5 MsgC w All v zs := h.own.reads.mono fun _ _ _ => trivial
end

set_option maxHeartbeats 2000000 in
theorem laneSame10_walk {w : World} {va vb : Value} {za zb : List (List Value × Stp)} {n : Int} (ha : Rd 7 StpC w All va za) (hb : Rd 7 StpC w All vb zb) :
    Calls Try.prog 5 #[va, vb, .int .i64 n] w fun e w' => e = .returned (.bool true) ∧ Ext No w w' := by
  obtain ⟨Aa, ca, rfl, hca, hma⟩ := ha.slice
  obtain ⟨Ab, cb, rfl, hcb, hmb⟩ := hb.slice
  refine Calls.of_G3 Try.func5 rfl Try.ntmps5 rfl ?_
  refine J.at (C := Cls w No []) ?_ (Cls.start _ _)
  repeat (first | (apply JL.y; (first | (apply Y_assign; rfl) | (apply Y_not; rfl)); rfl) | refine J.seq ?_ | refine J.region ?_ | refine JL.nil ?_ | (apply JL.callq; rfl; rfl; (intro wc hwc; first | exact lives10_spec _)))
  apply J.cond_f rfl
  repeat (first | refine J.skip ?_)
  refine J.seq ?_
  repeat (first | (apply JL.y; (apply Y_assign; rfl); rfl) | refine J.region ?_ | refine JL.nil ?_)
  refine J.seq ?_
  refine J.joinP (α := Value × Zs) (fun q w' => Ext No w w' ∧ Lst w w' q.1 q.2 ∧ q.2.map (·.2) = (za.take 6).map (fun z => z.2.m.cut8)) (fun q => [(0, .slice Aa za.length ca), (1, .slice Ab zb.length cb), (2, .int .i64 n), (7, q.1), (8, .slice none 0 0)]) (fun k' hj => ?_) (fun ⟨xa, zsa⟩ => ?_)
  · repeat (first | (apply JL.y; (apply Y_assign; rfl); rfl) | refine J.seq ?_ | refine J.region ?_ | refine JL.nil ?_ | refine J.block ?_)
    refine J.intro fun wl hwl => G.loop (Inv := fun mm e wl => ∃ (i : Nat) (x : Value) (zs : Zs), i ≤ za.length ∧ i ≤ 6 ∧ mm = 6 - i ∧ Ext No w wl ∧ Lst w wl x zs ∧ zs.map (·.2) = (za.take i).map (fun z => z.2.m.cut8) ∧ e = [(0, .slice Aa za.length ca), (1, .slice Ab zb.length cb), (2, .int .i64 n), (7, x), (8, .slice none 0 0), (9, .int .i64 i)])
      _ _ ⟨0, _, [], Nat.zero_le _, Nat.zero_le _, rfl, hwl.ext, Lst.nil _ _, rfl, rfl⟩ ⟨rfl, rfl, rfl, rfl, rfl, rfl, trivial⟩ ?_
    rintro mm e w1 ⟨i, x, zs, hi, hi6, rfl, hE, hL, hz, rfl⟩ ih
    refine J.at (C := Cls w1 No []) ?_ (Cls.start _ _)
    have hzl : zs.length ≤ 6 := by
      have := congrArg List.length hz
      simp at this; omega
    repeat (first | (apply JL.y; (first | (apply Y_move; rfl) | (apply Y_len; rfl) | (apply Y_lss; rfl; rfl)); rfl) | refine J.seq ?_ | refine J.region ?_)
    by_cases hlt : (i : Int) < za.length
    case neg =>
      rw [decide_eq_false hlt]
      repeat (first | (apply JL.y; (apply Y_pick_f; rfl; rfl); rfl) | refine JL.nil ?_ | (apply JL.guard_no; rfl; rfl; rfl; rfl; rfl))
      apply J.cond_f rfl
      repeat (first | (apply J.exit; rfl))
      refine J.imp (J.weak (hj (x, zs)) ⟨rfl, rfl, rfl, rfl, rfl, trivial⟩) fun w' hw' => ⟨hE.trans hw'.ext, hL.ext0 hw'.ext, ?_⟩
      rw [hz, List.take_of_length_le (by omega), List.take_of_length_le (by omega)]
    rw [decide_eq_true hlt]
    repeat (first | (apply JL.y; (first | (apply Y_move; rfl) | (apply Y_lss; rfl; rfl) | (apply Y_pick_t; rfl; rfl)); rfl) | refine JL.nil ?_ | (apply JL.guard_yes; rfl; rfl; rfl))
    refine J.cond_d rfl (fun hlt6 => ?_) (fun hlt6 => ?_)
    case refine_2 =>
      have hi6' : i = 6 := by omega
      subst hi6'
      repeat (first | (apply J.exit; rfl))
      exact J.imp (J.weak (hj (x, zs)) ⟨rfl, rfl, rfl, rfl, rfl, trivial⟩) fun w' hw' => ⟨hE.trans hw'.ext, hL.ext0 hw'.ext, hz⟩
    have hil : i < za.length := by omega
    obtain ⟨z, hx⟩ : ∃ z, za[i]? = some z := ⟨_, List.getElem?_eq_getElem hil⟩
    obtain ⟨ad, _, e1⟩ := ha.base (by omega) (by omega)
    cases e1
    have l1 := ((ha.lds (P := Try.prog) (t := 35) hx).ext0 hE)
    obtain ⟨ws, hws, hwr, ho⟩ := StpC.open_ (ha.el z (List.mem_of_getElem? hx))
    obtain ⟨zc, s⟩ := z
    simp only at hws hwr
    subst hws
    have hwr1 := hwr.old hE fun _ _ _ h => h
    unfold maxLen at hma
    repeat (first | (apply JL.y; (apply Y_move; rfl); rfl) | refine J.seq ?_ | refine J.region ?_ | refine J.skip ?_ | refine J.block ?_)
    apply JL.y (Y_indexAddr rfl rfl (by omega)) rfl
    apply JL.y (Y_loadP rfl fun w hw => l1.at_ hw.ext fun _ _ _ h => h) rfl
    refine JL.call _ rfl rfl (fun w2 hw2 => message10_spec (hwr1.ext0 hw2.ext)) fun w2 r w3 hw2 ⟨hE3, ws', hr, hF3, ho3⟩ => ?_
    subst hr
    refine GL.of_JL (C := Cls w3 No []) (Cls.start _ _) ?_
    unfold msgC
    repeat (first | (apply JL.bslice1; rfl; rfl; rfl; rfl; rfl; rfl; intro _))
    refine JL.intro fun w4 hw4 => ?_
    have hE4 : Ext No w1 w4 := (hw2.ext.trans hE3).trans hw4.ext
    have hL4 := hL.ext0 hE4
    refine GL.append1 rfl rfl hL4.own.row (hw4.has _ (.head _)) rfl rfl (msgC_one ho3) (by simp; omega) rfl rfl fun v' w5 hrow hapd => ?_
    have hx4 : Foot (fun w => MsgC w (msgC ws' s.m.cut8) s.m.cut8) w4 (fun k => k < w.heap.size) := ((MsgC.mk hF3 (cut8_len s.m)).ext0 hw4.ext).mono fun k _ hk => hk.2
    have hL5 := hL4.app hrow hapd hx4 (hE.trans hE4).size
    have hE5 : Ext No w w5 := (hE.trans hE4).then hapd.ext fun k hk hv => by have := hL.new k hv; omega
    refine GL.of_JL (C := Cls w5 No []) (Cls.start _ _) ?_
    repeat (first | (apply JL.y; (first | (apply Y_move; rfl) | (apply Y_assign; rfl) | (apply Y_add; rfl; rfl; omega)); rfl) | refine J.region ?_ | refine JL.nil ?_ | refine J.inBlock ?_)
    refine J.intro fun w6 hw6 => ih (6 - (i + 1)) (by omega) _ _ w6 ?_ ⟨i + 1, v', _, hil, by omega, rfl, hE5.trans hw6.ext, hL5.ext0 hw6.ext, ?_, rfl⟩
    · exact ⟨rfl, rfl, rfl, rfl, rfl, rfl, trivial⟩
    · rw [take_snoc hx, List.map_append, List.map_append, hz]; rfl
  simp only
  refine J.intro fun wa ⟨hEa, hLa, hza⟩ => J.at (C := Cls wa No []) ?_ (Cls.start _ _)
  refine J.seq ?_
  refine J.joinP (α := Value × Zs) (fun q w' => Ext No w w' ∧ Lst w w' q.1 q.2 ∧ q.2.map (·.2) = (zb.take 6).map (fun z => z.2.m.cut8) ∧ Lst w w' xa zsa ∧ (∀ k, xa.ownBlock = some k → q.1.ownBlock ≠ some k)) (fun q => [(2, .int .i64 n), (7, xa), (8, q.1)]) (fun k' hj => ?_) (fun ⟨xb, zsb⟩ => ?_)
  · repeat (first | (apply JL.y; (apply Y_assign; rfl); rfl) | refine J.seq ?_ | refine J.region ?_ | refine JL.nil ?_ | refine J.block ?_)
    refine J.intro fun wl hwl => G.loop (Inv := fun mm e wl => ∃ (i : Nat) (x : Value) (zs : Zs), i ≤ zb.length ∧ i ≤ 6 ∧ mm = 6 - i ∧ Ext No w wl ∧ Lst w wl x zs ∧ zs.map (·.2) = (zb.take i).map (fun z => z.2.m.cut8) ∧ Lst w wl xa zsa ∧ (∀ k, xa.ownBlock = some k → x.ownBlock ≠ some k) ∧ e = [(1, .slice Ab zb.length cb), (2, .int .i64 n), (7, xa), (8, x), (10, .int .i64 i)])
      _ _ ⟨0, _, [], Nat.zero_le _, Nat.zero_le _, rfl, hEa.trans hwl.ext, Lst.nil _ _, rfl, hLa.ext0 hwl.ext, fun k _ hk => by simp [Value.ownBlock] at hk, rfl⟩ ⟨rfl, rfl, rfl, rfl, rfl, trivial⟩ ?_
    rintro mm e w1 ⟨i, x, zs, hi, hi6, rfl, hE, hL, hz, hLx, hap, rfl⟩ ih
    refine J.at (C := Cls w1 No []) ?_ (Cls.start _ _)
    have hzl : zs.length ≤ 6 := by
      have := congrArg List.length hz
      simp at this; omega
    repeat (first | (apply JL.y; (first | (apply Y_move; rfl) | (apply Y_len; rfl) | (apply Y_lss; rfl; rfl)); rfl) | refine J.seq ?_ | refine J.region ?_)
    by_cases hlt : (i : Int) < zb.length
    case neg =>
      rw [decide_eq_false hlt]
      repeat (first | (apply JL.y; (apply Y_pick_f; rfl; rfl); rfl) | refine JL.nil ?_ | (apply JL.guard_no; rfl; rfl; rfl; rfl; rfl))
      apply J.cond_f rfl
      repeat (first | (apply J.exit; rfl))
      refine J.imp (J.weak (hj (x, zs)) ⟨rfl, rfl, rfl, trivial⟩) fun w' hw' => ⟨hE.trans hw'.ext, hL.ext0 hw'.ext, ?_, hLx.ext0 hw'.ext, hap⟩
      rw [hz, List.take_of_length_le (by omega), List.take_of_length_le (by omega)]
    rw [decide_eq_true hlt]
    repeat (first | (apply JL.y; (first | (apply Y_move; rfl) | (apply Y_lss; rfl; rfl) | (apply Y_pick_t; rfl; rfl)); rfl) | refine JL.nil ?_ | (apply JL.guard_yes; rfl; rfl; rfl))
    refine J.cond_d rfl (fun hlt6 => ?_) (fun hlt6 => ?_)
    case refine_2 =>
      have hi6' : i = 6 := by omega
      subst hi6'
      repeat (first | (apply J.exit; rfl))
      exact J.imp (J.weak (hj (x, zs)) ⟨rfl, rfl, rfl, trivial⟩) fun w' hw' => ⟨hE.trans hw'.ext, hL.ext0 hw'.ext, hz, hLx.ext0 hw'.ext, hap⟩
    have hil : i < zb.length := by omega
    obtain ⟨z, hx⟩ : ∃ z, zb[i]? = some z := ⟨_, List.getElem?_eq_getElem hil⟩
    obtain ⟨ad, _, e1⟩ := hb.base (by omega) (by omega)
    cases e1
    have l1 := ((hb.lds (P := Try.prog) (t := 35) hx).ext0 hE)
    obtain ⟨ws, hws, hwr, ho⟩ := StpC.open_ (hb.el z (List.mem_of_getElem? hx))
    obtain ⟨zc, s⟩ := z
    simp only at hws hwr
    subst hws
    have hwr1 := hwr.old hE fun _ _ _ h => h
    unfold maxLen at hmb
    repeat (first | (apply JL.y; (apply Y_move; rfl); rfl) | refine J.seq ?_ | refine J.region ?_ | refine J.skip ?_ | refine J.block ?_)
    apply JL.y (Y_indexAddr rfl rfl (by omega)) rfl
    apply JL.y (Y_loadP rfl fun w hw => l1.at_ hw.ext fun _ _ _ h => h) rfl
    refine JL.call _ rfl rfl (fun w2 hw2 => message10_spec (hwr1.ext0 hw2.ext)) fun w2 r w3 hw2 ⟨hE3, ws', hr, hF3, ho3⟩ => ?_
    subst hr
    refine GL.of_JL (C := Cls w3 No []) (Cls.start _ _) ?_
    unfold msgC
    repeat (first | (apply JL.bslice1; rfl; rfl; rfl; rfl; rfl; rfl; intro _))
    refine JL.intro fun w4 hw4 => ?_
    have hE4 : Ext No w1 w4 := (hw2.ext.trans hE3).trans hw4.ext
    have hL4 := hL.ext0 hE4
    refine GL.append1 rfl rfl hL4.own.row (hw4.has _ (.head _)) rfl rfl (msgC_one ho3) (by simp; omega) rfl rfl fun v' w5 hrow hapd => ?_
    have hx4 : Foot (fun w => MsgC w (msgC ws' s.m.cut8) s.m.cut8) w4 (fun k => k < w.heap.size) := ((MsgC.mk hF3 (cut8_len s.m)).ext0 hw4.ext).mono fun k _ hk => hk.2
    have hL5 := hL4.app hrow hapd hx4 (hE.trans hE4).size
    have hE5 : Ext No w w5 := (hE.trans hE4).then hapd.ext fun k hk hv => by have := hL.new k hv; omega
    refine GL.of_JL (C := Cls w5 No []) (Cls.start _ _) ?_
    repeat (first | (apply JL.y; (first | (apply Y_move; rfl) | (apply Y_assign; rfl) | (apply Y_add; rfl; rfl; omega)); rfl) | refine J.region ?_ | refine JL.nil ?_ | refine J.inBlock ?_)
    refine J.intro fun w6 hw6 => ih (6 - (i + 1)) (by omega) _ _ w6 ?_ ⟨i + 1, v', _, hil, by omega, rfl, hE5.trans hw6.ext, hL5.ext0 hw6.ext, ?_, ?_, ?_, rfl⟩
    · exact ⟨rfl, rfl, rfl, rfl, rfl, trivial⟩
    · rw [take_snoc hx, List.map_append, List.map_append, hz]; rfl
    · exact ((hLx.ext0 hE4).ext hapd.ext fun k hk hv => ⟨hL.new k hv, fun hxa => hap k hxa hv⟩).ext0 hw6.ext
    · intro k hxa hv
      rcases hapd.at_ with h1 | h1 <;> rw [h1] at hv
      · exact hap k hxa hv
      · injection hv with hv
        have := (hLx.ext0 hE4).own.row.lt hxa
        omega
  simp only
  refine J.intro fun wb ⟨hEb, hLb, hzb, hLa2, hap⟩ => J.at (C := Cls wb No []) ?_ (Cls.start _ _)
  have hx : Rd 5 MsgC wb All xa zsa := hLa2.rd
  have hy : Rd 5 MsgC wb All xb zsb := hLb.rd
  obtain ⟨A1, c1, hr1, hcap1, hmx1⟩ := hLa2.own.slice
  subst hr1
  by_cases h0 : zsa = []
  · subst h0
    have hzz : Rd 5 MsgC wb All (.slice none 0 0) [] := Rd.nil _ _ _ _
    repeat (first | (apply JL.y; (first | (apply Y_move; rfl) | (apply Y_assign; rfl)); rfl) | refine J.seq ?_ | refine J.region ?_ | refine JL.nil ?_)
    apply JL.y (Y_append0 rfl rfl) rfl
    repeat (first | (apply JL.y; (first | (apply Y_move; rfl) | (apply Y_assign; rfl) | (apply Y_len; rfl) | (apply Y_gtr; rfl; rfl)); rfl) | refine J.seq ?_ | refine J.region ?_ | refine JL.nil ?_)
    refine J.cond_d rfl (fun h => by exfalso; omega) (fun _ => ?_)
    repeat (first | (apply JL.y; (apply Y_move; rfl); rfl) | refine J.seq ?_ | refine J.region ?_ | (apply JL.callq; rfl; rfl; (intro wc hwc; first | exact laneSame_spec (hx.ext0 hwc.ext) (hy.ext0 hwc.ext) | exact same_spec (hx.ext0 hwc.ext) (hy.ext0 hwc.ext))) | refine J.skip ?_)
    apply JL.y (Y_eqlB Try.underlying4 rfl rfl) rfl
    repeat (first | (apply JL.y; (apply Y_move; rfl); rfl) | (apply JL.callq; rfl; rfl; (intro wc hwc; first | exact laneSame_spec (hx.ext0 hwc.ext) (hzz.ext0 hwc.ext) | exact same_spec (hx.ext0 hwc.ext) (hzz.ext0 hwc.ext))) | (apply JL.guard_yes; rfl; rfl; rfl))
    apply JL.y (Y_eqlB Try.underlying4 rfl rfl) rfl
    repeat (first | (apply JL.y; (first | (apply Y_move; rfl) | (apply Y_assign; rfl) | (apply Y_pick_t; rfl; rfl)); rfl) | refine JL.nil ?_ | (apply JL.callq; rfl; rfl; (intro wc hwc; first | exact laneSame_spec (hx.ext0 hwc.ext) (hx.ext0 hwc.ext))) | (apply JL.guard_yes; rfl; rfl; rfl))
    exact J.ret1 Try.func5 Try.results5 (RV.tm rfl) fun w' hw => ⟨ret_bool (by simp), hEb.trans hw.ext⟩
  have hL0 : 0 < zsa.length := List.length_pos_iff.2 h0
  have hL6 : zsa.length ≤ 6 := by have := congrArg List.length hza; simp at this; omega
  obtain ⟨ad, _, e1⟩ := hx.base (by omega) hL0
  cases e1
  obtain ⟨hp, hone⟩ := prs_eq (xs := zsa) fun z hz => by obtain ⟨ws, h1, _, _, h2⟩ := MsgC.open_ (hx.el z hz); exact ⟨ws, h1, h2⟩
  have honec : ∀ ch ∈ zsa.map (·.1), ∀ u ∈ ch, u.oneCell' = true := fun ch hch => by
    obtain ⟨z, hz, rfl⟩ := List.mem_map.1 hch
    obtain ⟨ws, hws, _, _, ho⟩ := MsgC.open_ (hx.el z hz)
    rw [hws]; exact msgC_one ho
  repeat (first | (apply JL.y; (first | (apply Y_move; rfl) | (apply Y_assign; rfl)); rfl) | refine J.seq ?_ | refine J.region ?_ | refine JL.nil ?_)
  refine JL.intro fun w1 hw1 => ?_
  refine GL.append rfl rfl (by decide) (Row.nil w1 _ _) (zsa.map (·.1)) (by simp) (by simpa using hx.row.now.size) (rrow_news (hx.row.at_ hw1.ext fun _ _ _ h => h) (by decide)) honec (by simp; omega) (by simp [maxLen]; omega) rfl fun v' w2 hrow hapd => ?_
  have hE12 : Ext No wb w2 := hw1.ext.then hapd.ext fun k _ hk => by simp [Value.ownBlock] at hk
  have hx2 := hx.ext0 hE12
  have hy2 := hy.ext0 hE12
  have hrow2 : Row w2 33 5 v' (zsa.map (·.1)) := by simpa using hrow
  obtain ⟨g, cap, cur, hv', _⟩ := hrow2.block (by simpa using hL0)
  subst hv'
  rw [List.length_map] at hrow2 hapd ⊢
  have hg : wb.heap.size ≤ g := by
    have := hw1.ext.size
    rcases hapd.at_ with h1 | h1 <;> simp [Value.ownBlock] at h1
    omega
  refine GL.of_JL (C := Cls w2 No []) (Cls.start _ _) ?_
  repeat (first | (apply JL.y; (first | (apply Y_move; rfl) | (apply Y_assign; rfl) | (apply Y_len; rfl) | (apply Y_gtr; rfl; rfl)); rfl) | refine J.seq ?_ | refine J.region ?_ | refine JL.nil ?_)
  refine J.cond_d rfl (fun _ => ?_) (fun h => by exfalso; omega)
  obtain ⟨q, hq⟩ : ∃ q, q = (IntKind.u64.wrap n).tmod zsa.length := ⟨_, rfl⟩
  have hw0 := wrap_u64_nonneg n
  have hq0 : 0 ≤ q := by rw [hq]; exact Int.tmod_nonneg _ hw0
  have hq1 : q < zsa.length := by rw [hq]; exact Int.tmod_lt_of_pos _ (by omega)
  repeat (first | (apply JL.y; (apply Y_move; rfl); rfl) | refine J.region ?_)
  apply JL.y (Y_conv rfl) rfl
  repeat (first | (apply JL.y; (first | (apply Y_move; rfl) | (apply Y_len; rfl) | (apply Y_convU; rfl; omega)); rfl))
  apply JL.y (Y_rem rfl rfl (by omega)) rfl
  rw [← hq]
  repeat (first | (apply JL.y; (first | (apply Y_move; rfl) | (apply Y_convI; rfl; omega)); rfl))
  apply JL.y (Y_indexAddr rfl rfl (by omega)) rfl
  rw [add_lit]
  repeat (first | (apply JL.y; (apply Y_fieldAddr; rfl; rfl); rfl))
  obtain ⟨z, hz⟩ : ∃ z, zsa[q.toNat]? = some z := ⟨_, List.getElem?_eq_getElem (by omega)⟩
  have hzm := List.mem_of_getElem? hz
  obtain ⟨ws, hws, hwr, hl8, ho⟩ := MsgC.open_ (hLa2.own.el z hzm)
  have hchz : (zsa.map (·.1))[q.toNat]? = some (msgC ws z.2) := by simp [hz, hws]
  apply JL.storeP (C' := fun w' => Row w' 33 5 (.slice (some ⟨g, 0, none⟩) zsa.length cap) ((zsa.set q.toNat (msgC ws { z.2 with late := n }, { z.2 with late := n })).map (·.1)) ∧ Ext (fun k => k = g) w2 w') rfl rfl
  · intro w5 hw5
    obtain ⟨w6, h1, h2, h3⟩ := Row.store1 (P := Try.prog) (t := 3) (t5 := 33) (j := 3) (v := .int .i64 n) (hrow2.ext0 hw5.ext) hchz (by decide) (msgC_one ho) rfl
    refine ⟨w6, by simpa using h1, ?_, hw5.ext.no.trans h3⟩
    rw [List.map_set]
    exact h2
  refine JL.intro fun w4 ⟨hR4, hE4⟩ => ?_
  have hEb4 : Ext No wb w4 := hE12.then hE4 fun k hk hkg => by
    have hkg' : k = g := hkg
    omega
  have hsw := hEb.size
  have hx := (hLa2.ext0 hEb4).rd
  have hy := (hLb.ext0 hEb4).rd
  have hzz : Rd 5 MsgC w4 All (.slice (some ⟨g, 0, none⟩) zsa.length cap) (zsa.set q.toNat (msgC ws { z.2 with late := n }, { z.2 with late := n })) := by
    refine ⟨((Row.foot hR4).imp fun w hw => Row.rrow hw).mono fun _ _ _ => trivial, fun y hy => ?_⟩
    rcases List.mem_or_eq_of_mem_set hy with hy | rfl
    · exact (((hLa2.own.el y hy).ext0 hEb4)).mono fun _ _ _ => trivial
    · exact ((MsgC.mk (m := { z.2 with late := n }) hwr hl8).ext0 hEb4).mono fun _ _ _ => trivial
  refine GL.of_JL (C := Cls w4 No []) (Cls.start _ _) ?_
  repeat (first | (apply JL.y; (apply Y_move; rfl); rfl) | refine J.seq ?_ | refine J.region ?_ | refine JL.nil ?_ | (apply JL.callq; rfl; rfl; (intro wc hwc; first | exact laneSame_spec (hx.ext0 hwc.ext) (hy.ext0 hwc.ext) | exact same_spec (hx.ext0 hwc.ext) (hy.ext0 hwc.ext))))
  apply JL.y (Y_eqlB Try.underlying4 rfl rfl) rfl
  repeat (first | (apply JL.y; (apply Y_move; rfl); rfl) | (apply JL.callq; rfl; rfl; (intro wc hwc; first | exact laneSame_spec (hx.ext0 hwc.ext) (hzz.ext0 hwc.ext) | exact same_spec (hx.ext0 hwc.ext) (hzz.ext0 hwc.ext))) | (apply JL.guard_yes; rfl; rfl; rfl))
  apply JL.y (Y_eqlB Try.underlying4 rfl rfl) rfl
  repeat (first | (apply JL.y; (first | (apply Y_move; rfl) | (apply Y_assign; rfl) | (apply Y_pick_t; rfl; rfl)); rfl) | refine JL.nil ?_ | (apply JL.callq; rfl; rfl; (intro wc hwc; first | exact laneSame_spec (hx.ext0 hwc.ext) (hx.ext0 hwc.ext))) | (apply JL.guard_yes; rfl; rfl; rfl))
  exact J.ret1 Try.func5 Try.results5 (RV.tm rfl) fun w' hw => ⟨ret_bool (by simp), (hEb.trans hEb4).trans hw.ext⟩
end Go.Proofs.Ytmkpbbdocndfbaa
