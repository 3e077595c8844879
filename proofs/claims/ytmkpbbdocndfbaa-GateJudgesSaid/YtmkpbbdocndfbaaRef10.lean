/- The document's lanes (empennageref10): what each function computes. -/
import Derived.Test.YtmkpbbdocndfbaaMore
import Derived.Test.YtmkpbbdocndfbaaPlayP
namespace Go.Proofs.Ytmkpbbdocndfbaa
open Go.RowKit Go.Proofs
attribute [local irreducible] Yl JL J G GL GA GQ DR

section
variable {P : Program} {n : Nat} {e : Env} {C : World → Prop} {ty t el sz : Nat} {pos : String} {aft : Array Edge} {dst : Option Tmp} {gd : Option (Nat × Bool)} {x y : Operand}
theorem Y_fieldAddrG {i off : Nat} [h : FI P t i off] {a : Addr} (hx : opv e x = some (.pointer (some a))) : Yl P C n e ⟨dst, .fieldAddr t x i, ty, pos, aft, gd⟩ (.pointer (some (a.add off))) := by
  unfold Yl
  intro ac w ha _
  simp [execOp, ha.eval hx, h.run]
theorem run_appendN [h : SI P t el sz] {A B : Option Addr} {m c c' : Nat} (hm : m ≤ c) (w : World) : (Builtin.append_ #[t, t] ty #[.slice B m c, .slice A 0 c']).run P w = .ok (.slice B m c) w := by
  cases A <;> cases B <;> simp [Builtin.append_, run_underlying h.und, h.sizeOf, Builtin.lenOf, Builtin.firstCells, loadCells, loadCellsFrom, hm, storeCells]
theorem Y_appendN [h : SI P t el sz] {A B : Option Addr} {m c c' : Nat} (hx : opv e x = some (.slice B m c)) (hy : opv e y = some (.slice A 0 c')) (hm : m ≤ c) : Yl P C n e ⟨dst, .call { callee := .builtin .append, args := #[x, y], argTypes := #[t, t] }, ty, pos, aft, gd⟩ (.slice B m c) := by
  unfold Yl
  intro a w ha _
  simp [execOp, resolve, invoke, builtin, ha.eval hx, ha.eval hy, run_appendN (P := P) (t := t) hm]
end
/-- One cell of an element. -/
theorem Rd.ldsF {α : Type} {el : World → List Value → α → Prop} {P : Program} {t : TypeId} {zv v : Value} {sz s m c : Nat} {ok : Nat → Prop} {w : World} {zs : List (List Value × α)} {ad : Addr} [ht : TI P t false s zv] (h : Rd sz el w ok (.slice (some ad) m c) zs) {i j : Nat} {z : List Value × α} (hi : zs[i]? = some z) (hj : z.1[j]? = some v) :
    Foot (Lds P t ((ad.add (i * sz)).add j) v) w ok :=
  h.row.imp fun w hw => by
    have hz : (zs.map (·.1))[i]? = Option.some z.1 := by simp [hi]
    obtain ⟨ad', h2, h3⟩ := hw.cell hz hj
    cases h2
    rw [add_add]
    exact lds_one h3

/-- A list made since w0, of messages whose words lie in ok, in what was there. -/
structure Lk (ok : Nat → Prop) (w0 w : World) (v : Value) (zs : Zs) : Prop where
  own : Own 33 5 MsgC w (fun k => ok k ∧ k < w0.heap.size) v zs
  new : ∀ k, v.ownBlock = some k → w0.heap.size ≤ k
section
variable {ok : Nat → Prop} {w0 w w1 : World} {v v' : Value} {zs : Zs} {D : Nat → Prop}
theorem Lk.nil (ok : Nat → Prop) (w0 w : World) : Lk ok w0 w (.slice none 0 0) [] := ⟨Own.nil _ _ _ _ _, fun k hk => by simp [Value.ownBlock] at hk⟩
theorem Lk.ext (h : Lk ok w0 w v zs) (he : Ext D w w1) (hD : ∀ k, k < w.heap.size → D k → w0.heap.size ≤ k ∧ v.ownBlock ≠ some k) : Lk ok w0 w1 v zs :=
  ⟨h.own.ext he (fun g hg hd => (hD g (h.own.row.lt hg) hd).2 hg) (fun k hk ho hd => by have := (hD k hk hd).1; omega), h.new⟩
theorem Lk.ext0 (h : Lk ok w0 w v zs) (he : Ext No w w1) : Lk ok w0 w1 v zs := h.ext he fun _ _ h => h.elim
theorem Lk.app (h : Lk ok w0 w v zs) {c : List Value} {m : Msg} (hrow : Row w1 33 5 v' (zs.map (·.1) ++ [c])) (ha : Apd w w1 v v') (hx : Foot (fun w => MsgC w c m) w (fun k => ok k ∧ k < w0.heap.size)) (hs : w0.heap.size ≤ w.heap.size) : Lk ok w0 w1 v' (zs ++ [(c, m)]) := by
  have hn : ∀ k, v'.ownBlock = some k → w0.heap.size ≤ k := fun k hk => by
    rcases ha.at_ with h1 | h1 <;> rw [h1] at hk
    · exact h.new k hk
    · injection hk with hk; omega
  refine ⟨(h.own.append hrow ha hx fun k _ hk hv => by have := h.new k hv; omega).mono (fun k _ hk => by rcases hk.1 with h1 | h1 <;> exact h1) (fun k hk hv => by have := hn k hv; omega), hn⟩
/-- An append of many. -/
theorem Lk.apps (h : Lk ok w0 w v zs) {ys : Zs} (hrow : Row w1 33 5 v' (zs.map (·.1) ++ ys.map (·.1))) (ha : Apd w w1 v v') (hx : ∀ y ∈ ys, Foot (fun w => MsgC w y.1 y.2) w (fun k => ok k ∧ k < w0.heap.size)) (hs : w0.heap.size ≤ w.heap.size) : Lk ok w0 w1 v' (zs ++ ys) := by
  have hn : ∀ k, v'.ownBlock = some k → w0.heap.size ≤ k := fun k hk => by
    rcases ha.at_ with h1 | h1 <;> rw [h1] at hk
    · exact h.new k hk
    · injection hk with hk; omega
  refine ⟨⟨by simpa using hrow, fun z hz => ?_, fun k hk hv => by have := hn k hv; omega⟩, hn⟩
  rcases List.mem_append.1 hz with hz | hz
  · exact (h.own.el z hz).ext ha.ext fun k _ hk hv => by have := h.new k hv; omega
  · exact (hx z hz).ext ha.ext fun k _ hk hv => by have := h.new k hv; omega
theorem Lk.rd (h : Lk ok w0 w v zs) : Rd 5 MsgC w (fun k => (ok k ∧ k < w0.heap.size) ∨ w0.heap.size ≤ k) v zs := h.own.reads.mono fun k _ hk => hk.imp id (h.new k)
end

/-- The document's lanes, as cells. -/
def rlC (ln pl : Int) (v : Value) : List Value := [.int .i64 ln, .int .i64 pl, v]
def kd8 (k : Int) : Int := (IntKind.u64.wrap k).tmod 8
theorem kd8_in (k : Int) : 0 ≤ kd8 k ∧ kd8 k < 8 := ⟨Int.tmod_nonneg _ (wrap_u64_nonneg k), Int.tmod_lt_of_pos _ (by decide)⟩

/-- empennageref10.New. -/
theorem rNew_spec (ln pl : Int) (w : World) : Calls Try.prog 26 #[.int .i64 ln, .int .i64 pl] w fun e w' => e = .returned (.agg (rlC (cl 1 3 ln) (cl 1 8 pl) (.slice none 0 0)).toArray) ∧ Ext No w w' := by
  refine Calls.of_G2 Try.func26 rfl Try.ntmps26 rfl ?_
  refine J.at (C := Cls w No []) ?_ (Cls.start _ _)
  repeat (first | (apply JL.y; (first | (apply Y_move; rfl) | (apply Y_min; rfl; rfl) | (apply Y_max; rfl; rfl) | (apply Y_build; rfl; exact inferInstance)); rfl) | refine J.seq ?_ | refine J.region ?_ | refine JL.nil ?_ | (apply JL.alloc; rfl; rfl; intro _) | (apply JL.store; (apply St_W 0; rfl; rfl; rfl; exact inferInstance; rfl; rfl; (first | (focus (simp [Value.oneCell']; done)) | (simp [Value.oneCell']; assumption) | (simp [Value.oneCell']; exact ⟨by assumption, by assumption⟩)); (first | (focus (simp only [List.set_cons_zero]; done)) | (simp only [List.set_cons_zero]; rfl)))))
  exact J.ret1 Try.func26 Try.results26 (RV.W 0 rfl rfl rfl) fun w' hw' => ⟨rfl, hw'.ext⟩
/-- early, of law 10. -/
theorem early10_spec {A : Option Addr} {m c : Nat} (hm : m ≤ c) (w : World) : Calls Try.prog 27 #[.slice A m c] w fun e w' => e = .returned (.slice A (min m 80) c) ∧ Ext No w w' := by
  refine Calls.of_G1 Try.func27 rfl Try.ntmps27 rfl ?_
  refine J.at (C := Cls w No []) ?_ (Cls.start _ _)
  repeat (first | (apply JL.y; (first | (apply Y_move; rfl) | (apply Y_assign; rfl) | (apply Y_len; rfl) | (apply Y_min; rfl; rfl)); rfl) | refine J.seq ?_ | refine J.region ?_ | refine JL.nil ?_)
  apply JL.y (Y_slice_h rfl rfl (by omega)) rfl
  rw [show (min (m : Int) 80).toNat = min m 80 by omega]
  repeat (first | (apply JL.y; (apply Y_assign; rfl); rfl) | refine JL.nil ?_)
  exact J.ret1 Try.func27 Try.results27 (RV.tm rfl) fun w' hw => ⟨rfl, hw.ext⟩
/-- Step.kind, of law 10. -/
theorem kind10_spec (ws : Value) (s : Stp) (w : World) : Calls Try.prog 28 #[.agg (stpC ws s).toArray] w fun e w' => e = .returned (.int .i64 (kd8 s.kind)) ∧ Ext No w w' := by
  have hk := kd8_in s.kind
  refine Calls.of_G1 Try.func28 rfl Try.ntmps28 rfl ?_
  refine J.at (C := Cls w No []) ?_ (Cls.start _ _)
  unfold stpC msgC
  repeat (first | (apply JL.y; (first | (apply Y_assign; rfl) | (apply Y_fieldAddr; rfl; rfl) | (apply Y_load1 0; rfl; rfl; rfl; exact inferInstance)); rfl) | refine J.seq ?_ | refine J.region ?_ | refine JL.nil ?_ | (apply JL.box; rfl; rfl; rfl; intro _))
  apply JL.y (Y_conv rfl) rfl
  apply JL.y (Y_rem rfl rfl (by decide)) rfl
  rw [show (IntKind.u64.wrap s.kind).tmod 8 = kd8 s.kind from rfl]
  repeat (first | (apply JL.y; (first | (apply Y_assign; rfl) | (apply Y_convI; rfl; omega)); rfl) | refine JL.nil ?_)
  exact J.ret1 Try.func28 Try.results28 (RV.tm rfl) fun w' hw => ⟨rfl, hw.ext⟩
/-- empennageref10.Late. -/
theorem rLate_spec (ws : Value) (m : Msg) (now : Int) (w : World) : Calls Try.prog 90 #[.agg (msgC ws m).toArray, .int .i64 now] w fun e w' => e = .returned (.bool (late now m)) ∧ Ext No w w' := by
  refine Calls.of_G2 Try.func90 rfl Try.ntmps90 rfl ?_
  refine J.at (C := Cls w No []) ?_ (Cls.start _ _)
  unfold msgC
  repeat (first | (apply JL.y; (apply Y_assign; rfl); rfl) | refine J.seq ?_ | refine J.region ?_ | refine JL.nil ?_ | (apply JL.box; rfl; rfl; rfl; intro _))
  refine J.draw (S := Cls _ _ _) [] #[false, false, false, false, false, false, false] rfl rfl (fun w hw => hw.drew) (fun w hS => ?_)
  (apply DR.pure 0 #[true, false, false, false, false, false, false]; rfl; kernel_rfl; (apply Y_move; rfl); rfl)
  (apply DR.pure 2 #[true, false, true, false, false, false, false]; rfl; kernel_rfl; (apply Y_fieldAddr; rfl; rfl); rfl)
  (apply DR.take 3 #[true, false, true, true, false, false, false]; rfl; kernel_rfl; (first | (apply Y_load1 0; rfl; rfl; rfl; exact inferInstance) | (apply Y_load1 1; rfl; rfl; rfl; exact inferInstance) | (apply Y_load1 2; rfl; rfl; rfl; exact inferInstance) | (apply Y_load1 3; rfl; rfl; rfl; exact inferInstance) | (apply Y_loadW 0; rfl; rfl; exact inferInstance; rfl) | (apply Y_loadW 1; rfl; rfl; exact inferInstance; rfl) | (apply Y_loadW 2; rfl; rfl; exact inferInstance; rfl) | (apply Y_loadW 3; rfl; rfl; exact inferInstance; rfl)); rfl; exact hS)
  refine DR.callq 1 #[true, true, true, true, false, false, false] rfl (by kernel_rfl) rfl rfl rfl (rcut_spec _ _) (fun w' hw' => hS.ext0 hw') (fun w hE2 hS => ?_)
  refine DR.callq 4 #[true, true, true, true, true, false, false] rfl (by kernel_rfl) rfl rfl rfl (rcut_spec _ _) (fun w' hw' => hS.ext0 hw') (fun w hE2 hS => ?_)
  (apply DR.pure 5 #[true, true, true, true, true, true, false]; rfl; kernel_rfl; (apply Y_geq; rfl; rfl); rfl)
  (apply DR.pure 6 #[true, true, true, true, true, true, true]; rfl; kernel_rfl; (apply Y_assign; rfl); rfl)
  refine DR.done (by kernel_rfl) ?_
  refine J.at (C := Cls _ _ _) ?_ hS
  exact J.ret1 Try.func90 Try.results90 (RV.tm rfl) fun w' hw' => ⟨rfl, hw'.ext⟩
end Go.Proofs.Ytmkpbbdocndfbaa
