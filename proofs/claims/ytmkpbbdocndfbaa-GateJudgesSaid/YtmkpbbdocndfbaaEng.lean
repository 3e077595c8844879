/- The engine: a judgement over machine states with a list of known slots, and its control rules (own work). -/
import Derived.Tactics
import Derived.Below
import Derived.KernelRfl
import Derived.OrdersHeld
import Derived.Laws.Rows
import Derived.Laws.AppendOwn
namespace Go.Proofs.Ytmkpbbdocndfbaa
open Go.RowKit

/-! ### Slots -/
abbrev Env := List (Nat × Value)
def Env.get : Env → Nat → Option Value
  | [], _ => none
  | (t, v) :: r, x => cond (Nat.beq t x) (some v) (Env.get r x)
/-- What an operand comes to. -/
def opv (e : Env) : Operand → Option Value
  | .tmp t => e.get t
  | .const v => some v
  | .global g => some (.pointer (some ⟨g, 0, none⟩))
  | .func f => some (.func (.func f) #[] #[])
/-- A frame's slots fit what is known of them. -/
structure Fits (n : Nat) (e : Env) (a : Act) : Prop where
  df : a.defers = []
  sz : a.tmps.size = n
  get : ∀ t v, e.get t = some v → a.tmps.getD t undef = v
/-- All that e' knows, e knows. -/
def Sub : Env → Env → Prop
  | [], _ => True
  | (t, v) :: r, e => e.get t = some v ∧ Sub r e

theorem Env.get_cons (t : Nat) (v : Value) (r : Env) (x : Nat) : Env.get ((t, v) :: r) x = if t = x then some v else Env.get r x := by
  cases hb : Nat.beq t x with
  | true => rw [if_pos (Nat.eq_of_beq_eq_true hb)]; simp [Env.get, hb]
  | false => rw [if_neg (Nat.ne_of_beq_eq_false hb)]; simp [Env.get, hb]

section
variable {n : Nat} {e e' : Env} {a : Act} {v : Value}
theorem Fits.eval (h : Fits n e a) {x : Operand} (hx : opv e x = some v) : a.eval x = v := by
  cases x with
  | tmp t => exact h.get t v hx
  | const c => simpa [opv, Act.eval] using hx
  | global g => simpa [opv, Act.eval] using hx
  | func f => simpa [opv, Act.eval] using hx
theorem Fits.put (h : Fits n e a) {d : Nat} (hd : d < n) (v : Value) : Fits n ((d, v) :: e) (a.put (some d) v) := by
  refine ⟨h.df, by simp [Act.put, h.sz], fun t u hu => ?_⟩
  rw [Env.get_cons] at hu
  by_cases hdt : d = t
  · subst hdt
    rw [if_pos rfl] at hu
    cases hu
    simp [Act.put, h.sz, hd]
  · rw [if_neg hdt] at hu
    have h1 := h.get t u hu
    simp only [Array.getD_eq_getD_getElem?] at h1
    simp [Act.put, Array.getElem?_setIfInBounds_ne hdt, h1]
theorem Fits.put0 (h : Fits n e a) (v : Value) : Fits n e (a.put none v) := h
theorem Sub.get_ : ∀ {e' e : Env}, Sub e' e → ∀ t v, e'.get t = some v → e.get t = some v
  | [], _, _, _, _, h => by simp [Env.get] at h
  | (t', v') :: r, e, hs, t, v, h => by
    rw [Env.get_cons] at h
    by_cases ht : t' = t
    · rw [if_pos ht] at h; cases h; rw [← ht]; exact hs.1
    · rw [if_neg ht] at h; exact Sub.get_ hs.2 t v h
theorem Fits.sub (h : Fits n e a) (hs : Sub e' e) : Fits n e' a := ⟨h.df, h.sz, fun t v ht => h.get t v (Sub.get_ hs t v ht)⟩
end

/-! ### The judgement -/
section
variable (P : Program) (f n : Nat) (R : Ending → World → Prop)
/-- From this frame the call comes to an end that R allows. -/
def GA (k : List Item) (a : Act) (w : World) : Prop :=
  ∀ (b : Frame), b.fn = f → b.kind = .normal → ∀ cs, ∃ e w' fr, R e w' ∧ Comes P (lone (b.at a k) cs w) (lone fr cs w') e ∧ fr.fn = f ∧ fr.leaving P w' e
def G (k : List Item) (e : Env) (w : World) : Prop := ∀ a, Fits n e a → GA P f R k a w
/-- In a region: the operations that are left. -/
def GQ (k : List Item) : Exit → Act → World → Prop
  | .normal, a, w => GA P f R k a w
  | _, _, _ => False
def GL (ops : Array Oper) (l : List Oper) (k : List Item) (e : Env) (w : World) : Prop := ∀ a, Fits n e a → wpList P ops (GQ P f R k) l a w
/-- In whatever world of a class. -/
def J (C : World → Prop) (k : List Item) (e : Env) : Prop := ∀ w, C w → G P f n R k e w
def JL (C : World → Prop) (ops : Array Oper) (l : List Oper) (k : List Item) (e : Env) : Prop := ∀ w, C w → GL P f n R ops l k e w
end

section
variable {P : Program} {f n : Nat} {R : Ending → World → Prop} {k : List Item} {e e' : Env} {w w' : World} {a : Act} {C C' : World → Prop}

theorem GA.step {k' : List Item} {a' : Act} (hs : ∀ b : Frame, ∀ cs, step P (lone (b.at a k) cs w) = .next (lone (b.at a' k') cs w')) (h : GA P f R k' a' w') : GA P f R k a w := by
  intro b hb hk cs
  obtain ⟨e, w2, fr, hR, hc, hf, hl⟩ := h b hb hk cs
  exact ⟨e, w2, fr, hR, Comes.of_steps (.one (hs b cs)) hc, hf, hl⟩
theorem GA.of_wp {c : Code} (h : c.wp P (GQ P f R k) a w) : GA P f R (.code c :: k) a w := by
  intro b hb hk cs
  obtain ⟨ex, a', w', hq, harr⟩ := h b k cs
  cases ex with
  | normal =>
    obtain ⟨e, w2, fr, hR, hc, hf, hl⟩ := hq b hb hk cs
    exact ⟨e, w2, fr, hR, Comes.of_steps harr hc, hf, hl⟩
  | _ => exact hq.elim

theorem G.weak (h : G P f n R k e' w) (hs : Sub e' e) : G P f n R k e w := fun a ha => h a (ha.sub hs)
theorem G.seq {x y : Code} (h : G P f n R (.code x :: .code y :: k) e w) : G P f n R (.code (.seq x y) :: k) e w :=
  fun a ha => .step (fun _ _ => step_seq) (h a ha)
theorem G.skip (h : G P f n R k e w) : G P f n R (.code .skip :: k) e w := fun a ha => .step (fun _ _ => step_skip) (h a ha)
theorem G.label {l : Nat} (h : G P f n R k e w) : G P f n R (.code (.label l) :: k) e w := fun a ha => .step (fun _ _ => step_label) (h a ha)
theorem G.block {id : Nat} {c : Code} (h : G P f n R (.code c :: .inBlock id :: k) e w) : G P f n R (.code (.block id c) :: k) e w :=
  fun a ha => .step (fun _ _ => step_block) (h a ha)
theorem G.inBlock {id : Nat} (h : G P f n R k e w) : G P f n R (.inBlock id :: k) e w := fun a ha => .step (fun _ _ => step_inBlock) (h a ha)
theorem G.exit {id : Nat} {k' : List Item} (hx : exitTo id k = some k') (h : G P f n R k' e w) : G P f n R (.code (.exit id) :: k) e w :=
  fun a ha => .step (fun _ _ => step_exit hx) (h a ha)
theorem G.cond {c : Operand} {x y : Code} {t : Bool} (hc : opv e c = some (.bool t)) (ht : t = true → G P f n R (.code x :: k) e w)
    (hf : t = false → G P f n R (.code y :: k) e w) : G P f n R (.code (.cond c x y) :: k) e w := by
  intro a ha
  have h1 := ha.eval hc
  cases t with
  | true => exact .step (fun _ _ => step_cond h1) (ht rfl a ha)
  | false => exact .step (fun _ _ => step_cond h1) (hf rfl a ha)
theorem G.ret {fn : Func} {v : Value} (hf : P.funcs[f]? = some fn) (hr : ∀ a, Fits n e a → (results fn a.tmps).run P w = .ok v w) (hR : R (.returned v) w) : G P f n R (.code .ret :: k) e w := by
  intro a ha b hb hk cs
  refine ⟨.returned v, w, { b.at a (.code .ret :: k) with mode := .returning }, hR, .one step_ret, hb, rfl, ha.df, hk, fn, ?_, hr a ha⟩
  show P.funcs[b.fn]? = some fn
  rw [hb]; exact hf
theorem G.end_ {fn : Func} {v : Value} (hf : P.funcs[f]? = some fn) (hr : ∀ a, Fits n e a → (results fn a.tmps).run P w = .ok v w) (hR : R (.returned v) w) : G P f n R [] e w := by
  intro a ha b hb hk cs
  refine ⟨.returned v, w, { b.at a [] with mode := .returning }, hR, .one step_end, hb, rfl, ha.df, hk, fn, ?_, hr a ha⟩
  show P.funcs[b.fn]? = some fn
  rw [hb]; exact hf
/-- A loop: Inv holds of the slots and the world at each round's head; the number falls. -/
theorem G.loop {c : Code} (Inv : Nat → Env → World → Prop) (m0 : Nat) (e0 : Env) (h0 : Inv m0 e0 w) (hs : Sub e0 e)
    (round : ∀ m e w, Inv m e w → (∀ m', m' < m → ∀ e' e'' w', Sub e'' e' → Inv m' e'' w' → G P f n R (.inLoop c :: k) e' w') → G P f n R (.code c :: .inLoop c :: k) e w) :
    G P f n R (.code (.loop c) :: k) e w := by
  have key : ∀ m e w, Inv m e w → G P f n R (.code c :: .inLoop c :: k) e w := by
    intro m
    induction m using Nat.strongRecOn with
    | _ m ih =>
      intro e w hI
      refine round m e w hI fun m' hm e' e'' w' hs hI' => ?_
      intro a ha
      exact .step (fun _ _ => step_inLoop) (ih m' hm e'' w' hI' a (ha.sub hs))
  intro a ha
  exact .step (fun _ _ => step_loop) (key m0 e0 w h0 a (ha.sub hs))
theorem G.region {id : Nat} {l : List Oper} (h : GL P f n R l.toArray l k e w) : G P f n R (.code (.region id l.toArray false) :: k) e w :=
  fun a ha => .of_wp (wp_region_lit (h a ha))
theorem GL.nil {ops : Array Oper} (h : G P f n R k e w) : GL P f n R ops [] k e w := fun a ha => wpList_nil (h a ha)

theorem Calls.of_G {fn : Func} {c : Code} {args : Array Value} {m : Nat} (hf : P.funcs[f]? = some fn) (hb : fn.body = some c) (hn : fn.ntmps = n) (hm : args.size = m) (hmn : m ≤ n)
    (h : G P f n R [.code c] (args.toList.zipIdx.map fun x => (x.2, x.1)) w) : Calls P f args w R := by
  subst hm
  intro cs
  have henter : Frame.enter P f args .normal = Frame.at { (default : Frame) with fn := f, kind := .normal } { tmps := args ++ Array.replicate (n - args.size) undef, defers := [] } [.code c] := by
    simp [Frame.enter, Frame.at, hf, hb, hn]
  rw [henter]
  refine h { tmps := args ++ Array.replicate (n - args.size) undef, defers := [] } ⟨rfl, by simp; omega, ?_⟩ { (default : Frame) with fn := f, kind := .normal } rfl rfl cs
  have key : ∀ (l : List Value) (i : Nat) (t : Nat) (v : Value), Env.get ((l.zipIdx i).map fun x => (x.2, x.1)) t = some v → i ≤ t ∧ l[t - i]? = some v := by
    intro l
    induction l with
    | nil => intro i t v hv; simp [Env.get] at hv
    | cons x l ih =>
      intro i t v hv
      simp only [List.zipIdx_cons, List.map_cons] at hv
      rw [Env.get_cons] at hv
      by_cases hit : i = t
      · subst hit; rw [if_pos rfl] at hv; cases hv; simp
      · rw [if_neg hit] at hv
        obtain ⟨h1, h2⟩ := ih (i + 1) t v hv
        refine ⟨by omega, ?_⟩
        obtain ⟨d, rfl⟩ : ∃ d, t = i + 1 + d := ⟨t - (i + 1), by omega⟩
        rw [show i + 1 + d - (i + 1) = d by omega] at h2
        rw [show i + 1 + d - i = d + 1 by omega]
        simpa using h2
  intro t v hv
  obtain ⟨_, h2⟩ := key _ 0 t v hv
  simp only [Nat.sub_zero] at h2
  have h3 : args[t]? = some v := by simpa using h2
  have hlt : t < args.size := (Array.getElem?_eq_some_iff.1 h3).1
  simp [Array.getElem?_append_left hlt, h3]

/-! ### Classes of worlds -/
theorem J.at {w : World} (h : J P f n R C k e) (hw : C w) : G P f n R k e w := h w hw
theorem JL.at {ops : Array Oper} {l : List Oper} (h : JL P f n R C ops l k e) (hw : C w) : GL P f n R ops l k e w := h w hw
theorem J.weak (h : J P f n R C k e') (hs : Sub e' e) : J P f n R C k e := fun w hw => (h w hw).weak hs
theorem J.imp (h : J P f n R C' k e) (hC : ∀ w, C w → C' w) : J P f n R C k e := fun w hw => h w (hC w hw)
theorem JL.imp {ops : Array Oper} {l : List Oper} (h : JL P f n R C' ops l k e) (hC : ∀ w, C w → C' w) : JL P f n R C ops l k e := fun w hw => h w (hC w hw)
theorem J.seq {x y : Code} (h : J P f n R C (.code x :: .code y :: k) e) : J P f n R C (.code (.seq x y) :: k) e := fun w hw => (h w hw).seq
theorem J.skip (h : J P f n R C k e) : J P f n R C (.code .skip :: k) e := fun w hw => (h w hw).skip
theorem J.label {l : Nat} (h : J P f n R C k e) : J P f n R C (.code (.label l) :: k) e := fun w hw => (h w hw).label
theorem J.block {id : Nat} {c : Code} (h : J P f n R C (.code c :: .inBlock id :: k) e) : J P f n R C (.code (.block id c) :: k) e := fun w hw => (h w hw).block
theorem J.inBlock {id : Nat} (h : J P f n R C k e) : J P f n R C (.inBlock id :: k) e := fun w hw => (h w hw).inBlock
theorem J.exit {id : Nat} {k' : List Item} (hx : exitTo id k = some k') (h : J P f n R C k' e) : J P f n R C (.code (.exit id) :: k) e := fun w hw => (h w hw).exit hx
theorem J.cond {c : Operand} {x y : Code} {t : Bool} (hc : opv e c = some (.bool t)) (ht : t = true → J P f n R C (.code x :: k) e)
    (hf : t = false → J P f n R C (.code y :: k) e) : J P f n R C (.code (.cond c x y) :: k) e := fun w hw => .cond hc (fun h => ht h w hw) (fun h => hf h w hw)
theorem J.cond_t {c : Operand} {x y : Code} (hc : opv e c = some (.bool true)) (ht : J P f n R C (.code x :: k) e) : J P f n R C (.code (.cond c x y) :: k) e :=
  .cond hc (fun _ => ht) (fun h => by cases h)
theorem J.cond_f {c : Operand} {x y : Code} (hc : opv e c = some (.bool false)) (ht : J P f n R C (.code y :: k) e) : J P f n R C (.code (.cond c x y) :: k) e :=
  .cond hc (fun h => by cases h) (fun _ => ht)
theorem J.cond_d {c : Operand} {x y : Code} {p : Prop} [Decidable p] (hc : opv e c = some (.bool (decide p))) (ht : p → J P f n R C (.code x :: k) e)
    (hf : ¬p → J P f n R C (.code y :: k) e) : J P f n R C (.code (.cond c x y) :: k) e :=
  .cond hc (fun h => ht (of_decide_eq_true h)) (fun h => hf (of_decide_eq_false h))
/-- Where ways come together again: what holds there of the slots and the world; what is behind it stays unseen meanwhile. -/
theorem J.join {i : Item} (C2 : World → Prop) (F : Env → Prop) (h1 : ∀ k', (∀ e', F e' → J P f n R C2 k' e') → J P f n R C (i :: k') e) (h2 : ∀ e', F e' → J P f n R C2 k e') : J P f n R C (i :: k) e := h1 k h2
/-- A loop's next round, by hand. -/
theorem J.loop1 {c : Code} (h : J P f n R C (.code c :: .inLoop c :: k) e) : J P f n R C (.code (.loop c) :: k) e := fun w hw a ha => .step (fun _ _ => step_loop) (h w hw a ha)
theorem J.inLoop1 {c : Code} (h : J P f n R C (.code c :: .inLoop c :: k) e) : J P f n R C (.inLoop c :: k) e := fun w hw a ha => .step (fun _ _ => step_inLoop) (h w hw a ha)
theorem J.isJoin {id : Nat} {ops : Array Oper} {b : Bool} {c : Operand} {x y : Code} (h : J P f n R C (.code (.seq (.region id ops b) (.cond c x y)) :: k) e) : J P f n R C (.code (.seq (.region id ops b) (.cond c x y)) :: k) e := h
theorem J.region {id : Nat} {l : List Oper} (h : JL P f n R C l.toArray l k e) : J P f n R C (.code (.region id l.toArray false) :: k) e := fun w hw => .region (h w hw)
theorem JL.nil {ops : Array Oper} (h : J P f n R C k e) : JL P f n R C ops [] k e := fun w hw => .nil (h w hw)

/-! ### One operation -/
/-- What o does in whatever frame and world of the kind: it leaves v and the world. -/
def Yl (P : Program) (C : World → Prop) (n : Nat) (e : Env) (o : Oper) (v : Value) : Prop := ∀ a w, Fits n e a → C w → (execOp a.eval o).run P w = .ok (.value v) w

theorem wpList_val {ops : Array Oper} {rest : List Oper} {o : Oper} {Q : Exit → Act → World → Prop} {v : Value} (hg : o.guard = none) (hr : (execOp a.eval o).run P w = .ok (.value v) w')
    (h : wpList P ops Q rest (a.put o.dst v) w') : wpList P ops Q (o :: rest) a w := by
  unfold wpList
  simp only [Region.wanted, hg, if_true]
  refine .inl ?_
  unfold Oper.wp
  rw [hr]; exact h
theorem wpList_skip {ops : Array Oper} {rest : List Oper} {o : Oper} {Q : Exit → Act → World → Prop} (hg : o.guard = none) (hr : (execOp a.eval o).run P w = .ok .skip w')
    (h : wpList P ops Q rest (a.put o.dst undef) w') : wpList P ops Q (o :: rest) a w := by
  unfold wpList
  simp only [Region.wanted, hg, if_true]
  refine .inl ?_
  unfold Oper.wp
  rw [hr]; exact h
theorem wpList_call {ops : Array Oper} {rest : List Oper} {o : Oper} {g : Nat} {args : Array Value} (hg : o.guard = none) (hr : (execOp a.eval o).run P w = .ok (.enter g args) w)
    (h : Calls P g args w fun e w' => ∃ v, e = .returned v ∧ wpList P ops (GQ P f R k) rest (a.put o.dst v) w') : wpList P ops (GQ P f R k) (o :: rest) a w := by
  unfold wpList
  simp only [Region.wanted, hg, if_true]
  refine .inl ?_
  unfold Oper.wp
  rw [hr, Oper.upon_enter]
  refine h.mono fun e w' he => ?_
  obtain ⟨v, rfl, hv⟩ := he
  exact hv

section
variable {ops : Array Oper} {rest : List Oper} {op : Op} {ty : TypeId} {pos : String} {aft : Array Edge} {d : Nat} {v : Value}
/-- The next operation leaves v in slot d and the world as it is. -/
theorem JL.y (hy : Yl P C n e ⟨some d, op, ty, pos, aft, none⟩ v) (hd : Nat.blt d n = true) (h : JL P f n R C ops rest k ((d, v) :: e)) : JL P f n R C ops (⟨some d, op, ty, pos, aft, none⟩ :: rest) k e :=
  fun w hw a ha => wpList_val rfl (hy a w ha hw) (h w hw _ (ha.put (by simpa using hd) v))
/-- The next operation leaves a value and a world of a class that goes by it. -/
theorem JL.x {X : Type} {vx : X → Value} {Cx : X → World → Prop} (hx : ∀ a w, Fits n e a → C w → ∃ x w', (execOp a.eval ⟨some d, op, ty, pos, aft, none⟩).run P w = .ok (.value (vx x)) w' ∧ Cx x w') (hd : Nat.blt d n = true)
    (h : ∀ x, JL P f n R (Cx x) ops rest k ((d, vx x) :: e)) : JL P f n R C ops (⟨some d, op, ty, pos, aft, none⟩ :: rest) k e := by
  intro w hw a ha
  obtain ⟨x, w', hr, hC⟩ := hx a w ha hw
  exact wpList_val rfl hr (h x w' hC _ (ha.put (by simpa using hd) _))
/-- The next operation writes. -/
theorem JL.st (hx : ∀ a w, Fits n e a → C w → ∃ w', (execOp a.eval ⟨none, op, ty, pos, aft, none⟩).run P w = .ok .skip w' ∧ C' w')
    (h : JL P f n R C' ops rest k e) : JL P f n R C ops (⟨none, op, ty, pos, aft, none⟩ :: rest) k e := by
  intro w hw a ha
  obtain ⟨w', hr, hC⟩ := hx a w ha hw
  exact wpList_skip rfl hr (h w' hC _ ha)
/-- The operands of a call, all at once. -/
def opvs (e : Env) : List Operand → Option (List Value)
  | [] => some []
  | x :: r => match opv e x, opvs e r with
    | some v, some l => some (v :: l)
    | _, _ => none
theorem Fits.evals {a : Act} (h : Fits n e a) : ∀ {xs : List Operand} {l : List Value}, opvs e xs = some l → xs.map a.eval = l
  | [], l, hx => by simp [opvs] at hx; simp [hx]
  | x :: r, l, hx => by
    simp only [opvs] at hx
    cases h1 : opv e x with
    | none => simp [h1] at hx
    | some v =>
      cases h2 : opvs e r with
      | none => simp [h1, h2] at hx
      | some l' =>
        simp only [h1, h2, Option.some.injEq] at hx
        subst hx
        simp [h.eval h1, h.evals h2]
theorem run_call {a : Act} {g : Nat} {x : Operand} {xs : List Operand} {l : List Value} {cap : Array Value} {ats : Array TypeId} {dst : Option Tmp} {gd : Option (Nat × Bool)} (ha : Fits n e a) (hf : opv e x = some (.func (.func g) #[] cap)) (hx : opvs e xs = some l)
    (hc : ∀ args w, (callFunc g args).run P w = .ok (.enter g args) w) (w : World) : (execOp a.eval ⟨dst, .call { callee := .value x, args := xs.toArray, argTypes := ats }, ty, pos, aft, gd⟩).run P w = .ok (.enter g (l.toArray ++ cap)) w := by
  have h1 := ha.eval hf
  have h2 := ha.evals hx
  simp only [execOp, resolve, h1, List.map_toArray, h2]
  simp [Deferred.ofValue, invoke, hc]
end
end
end Go.Proofs.Ytmkpbbdocndfbaa
