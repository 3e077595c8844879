/- The engine: a judgement over machine states with a list of known slots, and its control rules (own work). -/
import Derived.Tactics
import Derived.Below
import Derived.KernelRfl
import Derived.OrdersHeld
import Derived.Laws.Rows
import Derived.Laws.AppendOwn
import Derived.Laws.CopyRow
import Derived.Laws.Slices
import Derived.Laws.Pointers
import Derived.WalkSpells
import Derived.RowKit
import Derived.Test.YtmkpbbdocndfbaaWLast
import Derived.Maps.AppendAt
namespace Go.Proofs.Ytmkpbbdocndfbaa
open Go.RowKit

/-! ### Slots -/
abbrev Env := List (Nat × Value)
def Env.get : Env → Nat → Option Value
  | [], _ => none
  | (t, v) :: r, x => cond (Nat.beq t x) (some v) (Env.get r x)
/-- What an operand comes to. -/
def opv (e : Env) : Operand → Option Value
  | .tmp t => e.get t
  | .const v => some v
  | .global g => some (.pointer (some ⟨g, 0, none⟩))
  | .func f => some (.func (.func f) #[] #[])
/-- A frame's slots fit what is known of them. -/
structure Fits (n : Nat) (e : Env) (a : Act) : Prop where
  df : a.defers = []
  sz : a.tmps.size = n
  get : ∀ t v, e.get t = some v → a.tmps.getD t undef = v
/-- All that e' knows, e knows. -/
def Sub : Env → Env → Prop
  | [], _ => True
  | (t, v) :: r, e => e.get t = some v ∧ Sub r e

theorem Env.get_cons (t : Nat) (v : Value) (r : Env) (x : Nat) : Env.get ((t, v) :: r) x = if t = x then some v else Env.get r x := by
  cases hb : Nat.beq t x with
  | true => rw [if_pos (Nat.eq_of_beq_eq_true hb)]; simp [Env.get, hb]
  | false => rw [if_neg (Nat.ne_of_beq_eq_false hb)]; simp [Env.get, hb]

section
variable {n : Nat} {e e' : Env} {a : Act} {v : Value}
theorem Fits.eval (h : Fits n e a) {x : Operand} (hx : opv e x = some v) : a.eval x = v := by
  cases x with
  | tmp t => exact h.get t v hx
  | const c => simpa [opv, Act.eval] using hx
  | global g => simpa [opv, Act.eval] using hx
  | func f => simpa [opv, Act.eval] using hx
theorem Fits.put (h : Fits n e a) {d : Nat} (hd : d < n) (v : Value) : Fits n ((d, v) :: e) (a.put (some d) v) := by
  refine ⟨h.df, by simp [Act.put, h.sz], fun t u hu => ?_⟩
  rw [Env.get_cons] at hu
  by_cases hdt : d = t
  · subst hdt
    rw [if_pos rfl] at hu
    cases hu
    simp [Act.put, h.sz, hd]
  · rw [if_neg hdt] at hu
    have h1 := h.get t u hu
    simp only [Array.getD_eq_getD_getElem?] at h1
    simp [Act.put, Array.getElem?_setIfInBounds_ne hdt, h1]
theorem Fits.put0 (h : Fits n e a) (v : Value) : Fits n e (a.put none v) := h
theorem Sub.get_ : ∀ {e' e : Env}, Sub e' e → ∀ t v, e'.get t = some v → e.get t = some v
  | [], _, _, _, _, h => by simp [Env.get] at h
  | (t', v') :: r, e, hs, t, v, h => by
    rw [Env.get_cons] at h
    by_cases ht : t' = t
    · rw [if_pos ht] at h; cases h; rw [← ht]; exact hs.1
    · rw [if_neg ht] at h; exact Sub.get_ hs.2 t v h
theorem Fits.sub (h : Fits n e a) (hs : Sub e' e) : Fits n e' a := ⟨h.df, h.sz, fun t v ht => h.get t v (Sub.get_ hs t v ht)⟩
end

/-! ### The judgement -/
section
variable (P : Program) (f n : Nat) (R : Ending → World → Prop)
/-- From this frame the call comes to an end that R allows. -/
def GA (k : List Item) (a : Act) (w : World) : Prop :=
  ∀ (b : Frame), b.fn = f → b.kind = .normal → ∀ cs, ∃ e w' fr, R e w' ∧ Comes P (lone (b.at a k) cs w) (lone fr cs w') e ∧ fr.fn = f ∧ fr.leaving P w' e
def G (k : List Item) (e : Env) (w : World) : Prop := ∀ a, Fits n e a → GA P f R k a w
/-- In a region: the operations that are left. -/
def GQ (k : List Item) : Exit → Act → World → Prop
  | .normal, a, w => GA P f R k a w
  | _, _, _ => False
def GL (ops : Array Oper) (l : List Oper) (k : List Item) (e : Env) (w : World) : Prop := ∀ a, Fits n e a → wpList P ops (GQ P f R k) l a w
/-- In whatever world of a class. -/
def J (C : World → Prop) (k : List Item) (e : Env) : Prop := ∀ w, C w → G P f n R k e w
def JL (C : World → Prop) (ops : Array Oper) (l : List Oper) (k : List Item) (e : Env) : Prop := ∀ w, C w → GL P f n R ops l k e w
end

section
variable {P : Program} {f n : Nat} {R : Ending → World → Prop} {k : List Item} {e e' : Env} {w w' : World} {a : Act} {C C' : World → Prop}

theorem GA.step {k' : List Item} {a' : Act} (hs : ∀ b : Frame, ∀ cs, step P (lone (b.at a k) cs w) = .next (lone (b.at a' k') cs w')) (h : GA P f R k' a' w') : GA P f R k a w := by
  intro b hb hk cs
  obtain ⟨e, w2, fr, hR, hc, hf, hl⟩ := h b hb hk cs
  exact ⟨e, w2, fr, hR, Comes.of_steps (.one (hs b cs)) hc, hf, hl⟩
theorem GA.of_wp {c : Code} (h : c.wp P (GQ P f R k) a w) : GA P f R (.code c :: k) a w := by
  intro b hb hk cs
  obtain ⟨ex, a', w', hq, harr⟩ := h b k cs
  cases ex with
  | normal =>
    obtain ⟨e, w2, fr, hR, hc, hf, hl⟩ := hq b hb hk cs
    exact ⟨e, w2, fr, hR, Comes.of_steps harr hc, hf, hl⟩
  | _ => exact hq.elim

theorem G.weak (h : G P f n R k e' w) (hs : Sub e' e) : G P f n R k e w := fun a ha => h a (ha.sub hs)
theorem G.seq {x y : Code} (h : G P f n R (.code x :: .code y :: k) e w) : G P f n R (.code (.seq x y) :: k) e w :=
  fun a ha => .step (fun _ _ => step_seq) (h a ha)
theorem G.skip (h : G P f n R k e w) : G P f n R (.code .skip :: k) e w := fun a ha => .step (fun _ _ => step_skip) (h a ha)
theorem G.label {l : Nat} (h : G P f n R k e w) : G P f n R (.code (.label l) :: k) e w := fun a ha => .step (fun _ _ => step_label) (h a ha)
theorem G.block {id : Nat} {c : Code} (h : G P f n R (.code c :: .inBlock id :: k) e w) : G P f n R (.code (.block id c) :: k) e w :=
  fun a ha => .step (fun _ _ => step_block) (h a ha)
theorem G.inBlock {id : Nat} (h : G P f n R k e w) : G P f n R (.inBlock id :: k) e w := fun a ha => .step (fun _ _ => step_inBlock) (h a ha)
theorem G.exit {id : Nat} {k' : List Item} (hx : exitTo id k = some k') (h : G P f n R k' e w) : G P f n R (.code (.exit id) :: k) e w :=
  fun a ha => .step (fun _ _ => step_exit hx) (h a ha)
theorem G.cond {c : Operand} {x y : Code} {t : Bool} (hc : opv e c = some (.bool t)) (ht : t = true → G P f n R (.code x :: k) e w)
    (hf : t = false → G P f n R (.code y :: k) e w) : G P f n R (.code (.cond c x y) :: k) e w := by
  intro a ha
  have h1 := ha.eval hc
  cases t with
  | true => exact .step (fun _ _ => step_cond h1) (ht rfl a ha)
  | false => exact .step (fun _ _ => step_cond h1) (hf rfl a ha)
theorem G.ret {fn : Func} {v : Value} (hf : P.funcs[f]? = some fn) (hr : ∀ a, Fits n e a → (results fn a.tmps).run P w = .ok v w) (hR : R (.returned v) w) : G P f n R (.code .ret :: k) e w := by
  intro a ha b hb hk cs
  refine ⟨.returned v, w, { b.at a (.code .ret :: k) with mode := .returning }, hR, .one step_ret, hb, rfl, ha.df, hk, fn, ?_, hr a ha⟩
  show P.funcs[b.fn]? = some fn
  rw [hb]; exact hf
theorem G.end_ {fn : Func} {v : Value} (hf : P.funcs[f]? = some fn) (hr : ∀ a, Fits n e a → (results fn a.tmps).run P w = .ok v w) (hR : R (.returned v) w) : G P f n R [] e w := by
  intro a ha b hb hk cs
  refine ⟨.returned v, w, { b.at a [] with mode := .returning }, hR, .one step_end, hb, rfl, ha.df, hk, fn, ?_, hr a ha⟩
  show P.funcs[b.fn]? = some fn
  rw [hb]; exact hf
/-- A loop: Inv holds of the slots and the world at each round's head; the number falls. -/
theorem G.loop {c : Code} (Inv : Nat → Env → World → Prop) (m0 : Nat) (e0 : Env) (h0 : Inv m0 e0 w) (hs : Sub e0 e)
    (round : ∀ m e w, Inv m e w → (∀ m', m' < m → ∀ e' e'' w', Sub e'' e' → Inv m' e'' w' → G P f n R (.inLoop c :: k) e' w') → G P f n R (.code c :: .inLoop c :: k) e w) :
    G P f n R (.code (.loop c) :: k) e w := by
  have key : ∀ m e w, Inv m e w → G P f n R (.code c :: .inLoop c :: k) e w := by
    intro m
    induction m using Nat.strongRecOn with
    | _ m ih =>
      intro e w hI
      refine round m e w hI fun m' hm e' e'' w' hs hI' => ?_
      intro a ha
      exact .step (fun _ _ => step_inLoop) (ih m' hm e'' w' hI' a (ha.sub hs))
  intro a ha
  exact .step (fun _ _ => step_loop) (key m0 e0 w h0 a (ha.sub hs))
theorem G.region {id : Nat} {l : List Oper} (h : GL P f n R l.toArray l k e w) : G P f n R (.code (.region id l.toArray false) :: k) e w :=
  fun a ha => .of_wp (wp_region_lit (h a ha))
theorem GL.nil {ops : Array Oper} (h : G P f n R k e w) : GL P f n R ops [] k e w := fun a ha => wpList_nil (h a ha)

theorem Calls.of_G {fn : Func} {c : Code} {args : Array Value} {m : Nat} (hf : P.funcs[f]? = some fn) (hb : fn.body = some c) (hn : fn.ntmps = n) (hm : args.size = m) (hmn : m ≤ n)
    (h : G P f n R [.code c] (args.toList.zipIdx.map fun x => (x.2, x.1)) w) : Calls P f args w R := by
  subst hm
  intro cs
  have henter : Frame.enter P f args .normal = Frame.at { (default : Frame) with fn := f, kind := .normal } { tmps := args ++ Array.replicate (n - args.size) undef, defers := [] } [.code c] := by
    simp [Frame.enter, Frame.at, hf, hb, hn]
  rw [henter]
  refine h { tmps := args ++ Array.replicate (n - args.size) undef, defers := [] } ⟨rfl, by simp; omega, ?_⟩ { (default : Frame) with fn := f, kind := .normal } rfl rfl cs
  have key : ∀ (l : List Value) (i : Nat) (t : Nat) (v : Value), Env.get ((l.zipIdx i).map fun x => (x.2, x.1)) t = some v → i ≤ t ∧ l[t - i]? = some v := by
    intro l
    induction l with
    | nil => intro i t v hv; simp [Env.get] at hv
    | cons x l ih =>
      intro i t v hv
      simp only [List.zipIdx_cons, List.map_cons] at hv
      rw [Env.get_cons] at hv
      by_cases hit : i = t
      · subst hit; rw [if_pos rfl] at hv; cases hv; simp
      · rw [if_neg hit] at hv
        obtain ⟨h1, h2⟩ := ih (i + 1) t v hv
        refine ⟨by omega, ?_⟩
        obtain ⟨d, rfl⟩ : ∃ d, t = i + 1 + d := ⟨t - (i + 1), by omega⟩
        rw [show i + 1 + d - (i + 1) = d by omega] at h2
        rw [show i + 1 + d - i = d + 1 by omega]
        simpa using h2
  intro t v hv
  obtain ⟨_, h2⟩ := key _ 0 t v hv
  simp only [Nat.sub_zero] at h2
  have h3 : args[t]? = some v := by simpa using h2
  have hlt : t < args.size := (Array.getElem?_eq_some_iff.1 h3).1
  simp [Array.getElem?_append_left hlt, h3]

/-! ### Classes of worlds -/
theorem J.at {w : World} (h : J P f n R C k e) (hw : C w) : G P f n R k e w := h w hw
theorem JL.at {ops : Array Oper} {l : List Oper} (h : JL P f n R C ops l k e) (hw : C w) : GL P f n R ops l k e w := h w hw
theorem J.weak (h : J P f n R C k e') (hs : Sub e' e) : J P f n R C k e := fun w hw => (h w hw).weak hs
theorem J.imp (h : J P f n R C' k e) (hC : ∀ w, C w → C' w) : J P f n R C k e := fun w hw => h w (hC w hw)
theorem JL.imp {ops : Array Oper} {l : List Oper} (h : JL P f n R C' ops l k e) (hC : ∀ w, C w → C' w) : JL P f n R C ops l k e := fun w hw => h w (hC w hw)
theorem J.seq {x y : Code} (h : J P f n R C (.code x :: .code y :: k) e) : J P f n R C (.code (.seq x y) :: k) e := fun w hw => (h w hw).seq
theorem J.skip (h : J P f n R C k e) : J P f n R C (.code .skip :: k) e := fun w hw => (h w hw).skip
theorem J.label {l : Nat} (h : J P f n R C k e) : J P f n R C (.code (.label l) :: k) e := fun w hw => (h w hw).label
theorem J.block {id : Nat} {c : Code} (h : J P f n R C (.code c :: .inBlock id :: k) e) : J P f n R C (.code (.block id c) :: k) e := fun w hw => (h w hw).block
theorem J.inBlock {id : Nat} (h : J P f n R C k e) : J P f n R C (.inBlock id :: k) e := fun w hw => (h w hw).inBlock
theorem J.exit {id : Nat} {k' : List Item} (hx : exitTo id k = some k') (h : J P f n R C k' e) : J P f n R C (.code (.exit id) :: k) e := fun w hw => (h w hw).exit hx
theorem J.cond {c : Operand} {x y : Code} {t : Bool} (hc : opv e c = some (.bool t)) (ht : t = true → J P f n R C (.code x :: k) e)
    (hf : t = false → J P f n R C (.code y :: k) e) : J P f n R C (.code (.cond c x y) :: k) e := fun w hw => .cond hc (fun h => ht h w hw) (fun h => hf h w hw)
theorem J.cond_t {c : Operand} {x y : Code} (hc : opv e c = some (.bool true)) (ht : J P f n R C (.code x :: k) e) : J P f n R C (.code (.cond c x y) :: k) e :=
  .cond hc (fun _ => ht) (fun h => by cases h)
theorem J.cond_f {c : Operand} {x y : Code} (hc : opv e c = some (.bool false)) (ht : J P f n R C (.code y :: k) e) : J P f n R C (.code (.cond c x y) :: k) e :=
  .cond hc (fun h => by cases h) (fun _ => ht)
theorem J.cond_d {c : Operand} {x y : Code} {p : Prop} [Decidable p] (hc : opv e c = some (.bool (decide p))) (ht : p → J P f n R C (.code x :: k) e)
    (hf : ¬p → J P f n R C (.code y :: k) e) : J P f n R C (.code (.cond c x y) :: k) e :=
  .cond hc (fun h => ht (of_decide_eq_true h)) (fun h => hf (of_decide_eq_false h))
/-- Where ways come together again: what holds there of the slots and the world; what is behind it stays unseen meanwhile. -/
theorem J.join {i : Item} (C2 : World → Prop) (F : Env → Prop) (h1 : ∀ k', (∀ e', F e' → J P f n R C2 k' e') → J P f n R C (i :: k') e) (h2 : ∀ e', F e' → J P f n R C2 k e') : J P f n R C (i :: k) e := h1 k h2
/-- A loop's next round, by hand. -/
theorem J.loop1 {c : Code} (h : J P f n R C (.code c :: .inLoop c :: k) e) : J P f n R C (.code (.loop c) :: k) e := fun w hw a ha => .step (fun _ _ => step_loop) (h w hw a ha)
theorem J.inLoop1 {c : Code} (h : J P f n R C (.code c :: .inLoop c :: k) e) : J P f n R C (.inLoop c :: k) e := fun w hw a ha => .step (fun _ _ => step_inLoop) (h w hw a ha)
theorem J.isJoin {id : Nat} {ops : Array Oper} {b : Bool} {c : Operand} {x y : Code} (h : J P f n R C (.code (.seq (.region id ops b) (.cond c x y)) :: k) e) : J P f n R C (.code (.seq (.region id ops b) (.cond c x y)) :: k) e := h
theorem J.region {id : Nat} {l : List Oper} (h : JL P f n R C l.toArray l k e) : J P f n R C (.code (.region id l.toArray false) :: k) e := fun w hw => .region (h w hw)
theorem JL.nil {ops : Array Oper} (h : J P f n R C k e) : JL P f n R C ops [] k e := fun w hw => .nil (h w hw)

/-! ### One operation -/
/-- What o does in whatever frame and world of the kind: it leaves v and the world. -/
def Yl (P : Program) (C : World → Prop) (n : Nat) (e : Env) (o : Oper) (v : Value) : Prop := ∀ a w, Fits n e a → C w → (execOp a.eval o).run P w = .ok (.value v) w

theorem wpList_val {ops : Array Oper} {rest : List Oper} {o : Oper} {Q : Exit → Act → World → Prop} {v : Value} (hg : o.guard = none) (hr : (execOp a.eval o).run P w = .ok (.value v) w')
    (h : wpList P ops Q rest (a.put o.dst v) w') : wpList P ops Q (o :: rest) a w := by
  unfold wpList
  simp only [Region.wanted, hg, if_true]
  refine .inl ?_
  unfold Oper.wp
  rw [hr]; exact h
theorem wpList_skip {ops : Array Oper} {rest : List Oper} {o : Oper} {Q : Exit → Act → World → Prop} (hg : o.guard = none) (hr : (execOp a.eval o).run P w = .ok .skip w')
    (h : wpList P ops Q rest (a.put o.dst undef) w') : wpList P ops Q (o :: rest) a w := by
  unfold wpList
  simp only [Region.wanted, hg, if_true]
  refine .inl ?_
  unfold Oper.wp
  rw [hr]; exact h
theorem wpList_call {ops : Array Oper} {rest : List Oper} {o : Oper} {g : Nat} {args : Array Value} (hg : o.guard = none) (hr : (execOp a.eval o).run P w = .ok (.enter g args) w)
    (h : Calls P g args w fun e w' => ∃ v, e = .returned v ∧ wpList P ops (GQ P f R k) rest (a.put o.dst v) w') : wpList P ops (GQ P f R k) (o :: rest) a w := by
  unfold wpList
  simp only [Region.wanted, hg, if_true]
  refine .inl ?_
  unfold Oper.wp
  rw [hr, Oper.upon_enter]
  refine h.mono fun e w' he => ?_
  obtain ⟨v, rfl, hv⟩ := he
  exact hv

section
variable {ops : Array Oper} {rest : List Oper} {op : Op} {ty : TypeId} {pos : String} {aft : Array Edge} {d : Nat} {v : Value}
/-- The next operation leaves v in slot d and the world as it is. -/
theorem JL.y (hy : Yl P C n e ⟨some d, op, ty, pos, aft, none⟩ v) (hd : Nat.blt d n = true) (h : JL P f n R C ops rest k ((d, v) :: e)) : JL P f n R C ops (⟨some d, op, ty, pos, aft, none⟩ :: rest) k e :=
  fun w hw a ha => wpList_val rfl (hy a w ha hw) (h w hw _ (ha.put (by simpa using hd) v))
/-- The next operation leaves a value and a world of a class that goes by it. -/
theorem JL.x {X : Type} {vx : X → Value} {Cx : X → World → Prop} (hx : ∀ a w, Fits n e a → C w → ∃ x w', (execOp a.eval ⟨some d, op, ty, pos, aft, none⟩).run P w = .ok (.value (vx x)) w' ∧ Cx x w') (hd : Nat.blt d n = true)
    (h : ∀ x, JL P f n R (Cx x) ops rest k ((d, vx x) :: e)) : JL P f n R C ops (⟨some d, op, ty, pos, aft, none⟩ :: rest) k e := by
  intro w hw a ha
  obtain ⟨x, w', hr, hC⟩ := hx a w ha hw
  exact wpList_val rfl hr (h x w' hC _ (ha.put (by simpa using hd) _))
/-- The next operation writes. -/
theorem JL.st (hx : ∀ a w, Fits n e a → C w → ∃ w', (execOp a.eval ⟨none, op, ty, pos, aft, none⟩).run P w = .ok .skip w' ∧ C' w')
    (h : JL P f n R C' ops rest k e) : JL P f n R C ops (⟨none, op, ty, pos, aft, none⟩ :: rest) k e := by
  intro w hw a ha
  obtain ⟨w', hr, hC⟩ := hx a w ha hw
  exact wpList_skip rfl hr (h w' hC _ ha)
/-- The operands of a call, all at once. -/
def opvs (e : Env) : List Operand → Option (List Value)
  | [] => some []
  | x :: r => match opv e x, opvs e r with
    | some v, some l => some (v :: l)
    | _, _ => none
theorem Fits.evals {a : Act} (h : Fits n e a) : ∀ {xs : List Operand} {l : List Value}, opvs e xs = some l → xs.map a.eval = l
  | [], l, hx => by simp [opvs] at hx; simp [hx]
  | x :: r, l, hx => by
    simp only [opvs] at hx
    cases h1 : opv e x with
    | none => simp [h1] at hx
    | some v =>
      cases h2 : opvs e r with
      | none => simp [h1, h2] at hx
      | some l' =>
        simp only [h1, h2, Option.some.injEq] at hx
        subst hx
        simp [h.eval h1, h.evals h2]
theorem run_call {a : Act} {g : Nat} {x : Operand} {xs : List Operand} {l : List Value} {cap : Array Value} {ats : Array TypeId} {dst : Option Tmp} {gd : Option (Nat × Bool)} (ha : Fits n e a) (hf : opv e x = some (.func (.func g) #[] cap)) (hx : opvs e xs = some l)
    (hc : ∀ args w, (callFunc g args).run P w = .ok (.enter g args) w) (w : World) : (execOp a.eval ⟨dst, .call { callee := .value x, args := xs.toArray, argTypes := ats }, ty, pos, aft, gd⟩).run P w = .ok (.enter g (l.toArray ++ cap)) w := by
  have h1 := ha.eval hf
  have h2 := ha.evals hx
  simp only [execOp, resolve, h1, List.map_toArray, h2]
  simp [Deferred.ofValue, invoke, hc]
end
end
end Go.Proofs.Ytmkpbbdocndfbaa
/- The engine: worlds, blocks that are known, and the operations (own work). -/
namespace Go.Proofs.Ytmkpbbdocndfbaa
open Go.RowKit

/-! ### What is known of types, functions -/
class TI (P : Program) (t : TypeId) (agg : outParam Bool) (size : outParam Nat) (zero : outParam Value) : Prop where
  isAgg : ∀ w, (isAgg t).run P w = .ok agg w
  sizeOf : ∀ w, (sizeOf t).run P w = .ok size w
  zero : ∀ w, (zeroValue t).run P w = .ok zero w
class FI (P : Program) (t : TypeId) (i : Nat) (off : outParam Nat) : Prop where
  run : ∀ a w, (Instr.fieldAt t (.pointer (some a)) i).run P w = .ok (.pointer (some (a.add off))) w
class SI (P : Program) (t : TypeId) (elem : outParam TypeId) (size : outParam Nat) : Prop where
  und : P.underlying t = some (.slice elem)
  sizeOf : ∀ w, (sizeOf elem).run P w = .ok size w
class PI (P : Program) (t : TypeId) : Prop where
  und : P.underlying t = some (.pointer (P.pointee t))
class CI (P : Program) (g : Nat) : Prop where
  run : ∀ args w, (callFunc g args).run P w = .ok (.enter g args) w
class VI (P : Program) (s t : TypeId) (k : outParam IntKind) : Prop where
  src : ∃ d, P.underlying s = some (.int d)
  dst : P.underlying t = some (.int k)
class BI (P : Program) (t : TypeId) (parts : List (Nat × Value)) (cells : outParam (List Value)) : Prop where
  run : ∀ w, (Instr.build t parts.toArray).run P w = .ok (.agg cells.toArray) w

/-! ### Worlds -/
/-- Outside D, what was there is as it was. -/
structure Ext (D : Nat → Prop) (w w' : World) : Prop where
  os : w'.os = w.os
  tape : w'.tape = w.tape
  output : w'.output = w.output
  size : w.heap.size ≤ w'.heap.size
  block : ∀ k, k < w.heap.size → ¬ D k → w'.heap[k]? = w.heap[k]?
abbrev No : Nat → Prop := fun _ => False
section
variable {D D' D1 D2 : Nat → Prop} {w w1 w2 : World}
theorem Ext.refl (D : Nat → Prop) (w : World) : Ext D w w := ⟨rfl, rfl, rfl, Nat.le_refl _, fun _ _ _ => rfl⟩
theorem Ext.mono (h : Ext D w w1) (hD : ∀ k, k < w.heap.size → D k → D' k) : Ext D' w w1 := ⟨h.os, h.tape, h.output, h.size, fun k hk hn => h.block k hk fun hd => hn (hD k hk hd)⟩
theorem Ext.no (h : Ext No w w1) : Ext D w w1 := h.mono fun _ _ hd => hd.elim
/-- Two steps: what the second one turns is D or new. -/
theorem Ext.then (h : Ext D w w1) (h2 : Ext D2 w1 w2) (hD : ∀ k, k < w.heap.size → D2 k → D k) : Ext D w w2 :=
  ⟨h2.os.trans h.os, h2.tape.trans h.tape, h2.output.trans h.output, Nat.le_trans h.size h2.size,
    fun k hk hn => (h2.block k (Nat.lt_of_lt_of_le hk h.size) fun hd => hn (hD k hk hd)).trans (h.block k hk hn)⟩
theorem Ext.trans (h : Ext D w w1) (h2 : Ext D w1 w2) : Ext D w w2 := h.then h2 fun _ _ h => h
theorem Ext.thenNo (h : Ext D w w1) (h2 : Ext No w1 w2) : Ext D w w2 := h.then h2 fun _ _ h => h.elim
theorem Ext.alloc (w : World) (o : Obj) : Ext D w (w.alloc o) := ⟨rfl, rfl, rfl, by simp, fun k hk _ => Below.heap_alloc w o k hk⟩
theorem Ext.drew (w : World) : Ext D w w.drew := ⟨rfl, rfl, rfl, Nat.le_refl _, fun _ _ _ => rfl⟩
theorem Ext.of_below (h : Below w.heap.size w w1) : Ext D w w1 := ⟨h.os, h.tape, h.output, h.size, fun k hk _ => h.block k hk⟩
theorem Ext.below (h : Ext No w w1) : Below w.heap.size w w1 := ⟨h.os, h.tape, h.output, h.size, fun k hk => h.block k hk id⟩
theorem Ext.of_grown {row : Option Nat} (h : w.grownBy w1 row) (hD : ∀ k, row = some k → D k) : Ext D w w1 := ⟨h.os, h.tape, h.output, h.size, fun k hk hn => h.block k hk fun e => hn (hD k e.symm)⟩
theorem setRow_at (w : World) (g k : Nat) (cs : Array Value) (h : k ≠ g) : (w.setRow g cs).heap[k]? = w.heap[k]? := by
  simp only [World.setRow, Array.getElem?_modify]; rw [if_neg (fun e => h e.symm)]
theorem Ext.setRow (w : World) (g : Nat) (cs : Array Value) (hD : D g) : Ext D w (w.setRow g cs) := ⟨rfl, rfl, rfl, by simp, fun k _ hn => setRow_at w g k cs fun e => hn (e ▸ hD)⟩

/-- What holds of w, and of each world that has w's blocks of ok. -/
def Foot (p : World → Prop) (w : World) (ok : Nat → Prop) : Prop := ∀ w' : World, (∀ k, ok k → k < w.heap.size → w'.heap[k]? = w.heap[k]?) → p w'
section
variable {p q : World → Prop} {ok ok' : Nat → Prop}
theorem Foot.now (h : Foot p w ok) : p w := h w fun _ _ _ => rfl
theorem Foot.mono (h : Foot p w ok) (hk : ∀ k, k < w.heap.size → ok k → ok' k) : Foot p w ok' := fun w' hw => h w' fun k ho hl => hw k (hk k hl ho) hl
theorem Foot.imp (h : Foot p w ok) (hi : ∀ w', p w' → q w') : Foot q w ok := fun w' hw => hi w' (h w' hw)
theorem Foot.and (h : Foot p w ok) (h2 : Foot q w ok) : Foot (fun w => p w ∧ q w) w ok := fun w' hw => ⟨h w' hw, h2 w' hw⟩
theorem heap_lt' {W W1 : World} {k : Nat} (h : W1.heap[k]? = W.heap[k]?) (hlt : k < W.heap.size) : k < W1.heap.size := by
  rw [Array.getElem?_eq_getElem hlt] at h
  exact (Array.getElem?_eq_some_iff.1 h).1
theorem Foot.ext (h : Foot p w ok) (he : Ext D w w1) (hd : ∀ k, k < w.heap.size → ok k → ¬ D k) : Foot p w1 ok := fun w' hw =>
  h w' fun k ho hl => (hw k ho (Nat.lt_of_lt_of_le hl he.size)).trans (he.block k hl (hd k hl ho))
/-- Moved, and still elder than what is new. -/
theorem Foot.old (h : Foot p w ok) (he : Ext D w w1) (hd : ∀ k, k < w.heap.size → ok k → ¬ D k) : Foot p w1 (fun k => ok k ∧ k < w.heap.size) :=
  (h.mono (ok' := fun k => ok k ∧ k < w.heap.size) fun _ hl ho => ⟨ho, hl⟩).ext he fun k hl ho => hd k hl ho.1
theorem Foot.ext0 (h : Foot p w ok) (he : Ext No w w1) : Foot p w1 ok := h.ext he fun _ _ _ h => h
theorem Foot.at_ (h : Foot p w ok) (he : Ext D w w1) (hd : ∀ k, k < w.heap.size → ok k → ¬ D k) : p w1 := (h.ext he hd).now
theorem Foot.pure (h : ∀ w, p w) : Foot p w ok := fun w' _ => h w'
end

/-- A block whose cells are known. -/
structure Blk where
  b : Nat
  cs : List Value
  t : TypeId
def BlkIn (w : World) (x : Blk) : Prop := w.heap[x.b]? = some (.cells x.cs.toArray x.t (0, 0))
def Apart : List Blk → Prop
  | [] => True
  | x :: r => (∀ y, y ∈ r → y.b ≠ x.b) ∧ Apart r
/-- The worlds behind w0: outside D all is as it was; these blocks are known; they are of D, or new. -/
structure Cls (w0 : World) (D : Nat → Prop) (H : List Blk) (w : World) : Prop where
  ext : Ext D w0 w
  has : ∀ x, x ∈ H → BlkIn w x
  apart : Apart H
  mine : ∀ x, x ∈ H → D x.b ∨ w0.heap.size ≤ x.b

variable {w0 : World} {H H' : List Blk}
theorem BlkIn.lt {x : Blk} (h : BlkIn w x) : x.b < w.heap.size := (Array.getElem?_eq_some_iff.1 h).1
theorem BlkIn.ext0 {x : Blk} (h : BlkIn w x) (he : Ext No w w1) : BlkIn w1 x := (he.block _ h.lt id).trans h
theorem Cls.start (D : Nat → Prop) (w : World) : Cls w D [] w := ⟨.refl _ _, by simp, trivial, by simp⟩
theorem Cls.ext0 (h : Cls w0 D H w) (he : Ext No w w1) : Cls w0 D H w1 := ⟨h.ext.thenNo he, fun x hx => (h.has x hx).ext0 he, h.apart, h.mine⟩
theorem Cls.drew (h : Cls w0 D H w) : Cls w0 D H w.drew := h.ext0 (.drew w)
theorem Cls.drop {x : Blk} (h : Cls w0 D (x :: H) w) : Cls w0 D H w := ⟨h.ext, fun y hy => h.has y (.tail _ hy), h.apart.2, fun y hy => h.mine y (.tail _ hy)⟩
theorem Cls.alloc (h : Cls w0 D H w) (cs : List Value) (t : TypeId) : Cls w0 D (⟨w.heap.size, cs, t⟩ :: H) (w.alloc (.cells cs.toArray t)) := by
  refine ⟨h.ext.thenNo (.alloc _ _), fun x hx => ?_, ⟨fun y hy => Nat.ne_of_lt (h.has y hy).lt, h.apart⟩, fun x hx => ?_⟩
  · cases hx with
    | head => exact heap_alloc_new w _
    | tail _ hx => exact (h.has x hx).ext0 (.alloc _ _)
  · cases hx with
    | head => exact .inr h.ext.size
    | tail _ hx => exact h.mine x hx
/-- The blocks that are known. -/
def Bs (H : List Blk) (k : Nat) : Prop := ∃ x, x ∈ H ∧ x.b = k
theorem Cls.rebase (h : Cls w0 D H w) : Cls w (Bs H) H w := ⟨.refl _ _, h.has, h.apart, fun x hx => .inl ⟨x, hx, rfl⟩⟩
/-- From the elder begin on. -/
theorem Cls.via (h : Cls w0 D H w) (h2 : Ext (Bs H) w w1) : Ext D w0 w1 := h.ext.then h2 fun k hk ⟨x, hx, he⟩ => by
  subst he
  exact (h.mine x hx).resolve_right (by omega)
theorem Cls.bs_lt (h : Cls w0 D H w) {k : Nat} (hk : Bs H k) : k < w.heap.size := by
  obtain ⟨x, hx, rfl⟩ := hk; exact (h.has x hx).lt
theorem Cls.bs_new (h : Cls w0 No H w) {k : Nat} (hk : Bs H k) : w0.heap.size ≤ k := by
  obtain ⟨x, hx, rfl⟩ := hk; exact (h.mine x hx).resolve_left id
theorem apart_set : ∀ (H : List Blk) (i : Nat) (b : Nat) (cs cs' : List Value) (t : TypeId), Apart H → H[i]? = some ⟨b, cs, t⟩ → Apart (H.set i ⟨b, cs', t⟩)
  | [], i, _, _, _, _, _, h => by simp at h
  | x :: r, 0, b, cs, cs', t, ha, h => by
    simp at h; subst h
    exact ⟨ha.1, ha.2⟩
  | x :: r, i + 1, b, cs, cs', t, ha, h => by
    simp only [List.getElem?_cons_succ] at h
    refine ⟨fun y hy => ?_, apart_set r i b cs cs' t ha.2 h⟩
    rcases List.mem_or_eq_of_mem_set hy with hy | rfl
    · exact ha.1 y hy
    · exact ha.1 ⟨b, cs, t⟩ (List.mem_of_getElem? h)
theorem apart_ne : ∀ (H : List Blk) (i : Nat) (x : Blk), Apart H → H[i]? = some x → ∀ (j : Nat) (y : Blk), H[j]? = some y → y.b = x.b → j = i
  | [], _, _, _, h, _, _, _, _ => by simp at h
  | z :: r, 0, x, ha, h, j, y, hj, he => by
    simp at h; subst h
    cases j with
    | zero => rfl
    | succ j => simp only [List.getElem?_cons_succ] at hj; exact absurd he (ha.1 y (List.mem_of_getElem? hj))
  | z :: r, i + 1, x, ha, h, j, y, hj, he => by
    simp only [List.getElem?_cons_succ] at h
    cases j with
    | zero => simp at hj; subst hj; exact absurd he.symm (ha.1 x (List.mem_of_getElem? h))
    | succ j => simp only [List.getElem?_cons_succ] at hj; rw [apart_ne r i x ha.2 h j y hj he]
theorem Cls.set (h : Cls w0 D H w) {i b : Nat} {cs cs' : List Value} {t : TypeId} (hi : H[i]? = some ⟨b, cs, t⟩) : Cls w0 D (H.set i ⟨b, cs', t⟩) (w.setRow b cs'.toArray) := by
  have hb := h.has _ (List.mem_of_getElem? hi)
  have hm := h.mine _ (List.mem_of_getElem? hi)
  refine ⟨?_, fun x hx => ?_, apart_set H i b cs cs' t h.apart hi, fun x hx => ?_⟩
  · rcases hm with hm | hm
    · exact h.ext.trans (.setRow w b _ hm)
    · refine h.ext.then (D2 := fun k => k = b) (.setRow w b _ rfl) fun k hk he => ?_
      subst he; simp at hm; omega
  · obtain ⟨j, hj⟩ := List.mem_iff_getElem?.1 hx
    rw [List.getElem?_set] at hj
    by_cases hij : i = j
    · subst hij
      rw [if_pos rfl] at hj
      split at hj
      · cases hj
        exact setRow_heap w b cs.toArray cs'.toArray t _ hb
      · cases hj
    · rw [if_neg hij] at hj
      have hxb : x.b ≠ b := fun he => hij (apart_ne H i _ h.apart hi j x hj he).symm
      exact (setRow_at w b x.b _ hxb).trans (h.has x (List.mem_of_getElem? hj))
  · rcases List.mem_or_eq_of_mem_set hx with hx | rfl
    · exact h.mine x hx
    · exact hm
end

theorem add_lit (b o m : Nat) : (⟨b, o, none⟩ : Addr).add m = ⟨b, o + m, none⟩ := by unfold Addr.add; split <;> simp_all
/-- What a load of this type at this address comes to. -/
def Lds (P : Program) (t : TypeId) (p : Addr) (v : Value) (w : World) : Prop := (loadVar t p).run P w = .ok v w

section
variable {P : Program} {f n : Nat} {R : Ending → World → Prop} {k : List Item} {e e' : Env} {w w' w0 : World} {a : Act} {C C' : World → Prop} {D : Nat → Prop} {H H' : List Blk}
variable {ops : Array Oper} {rest : List Oper} {ty t t2 : TypeId} {pos : String} {aft : Array Edge} {d : Nat} {v : Value} {x y z : Operand} {dst : Option Tmp} {gd : Option (Nat × Bool)} {p q : Int} {b o : Nat} {cs l : List Value}

theorem Y_move (hx : opv e x = some v) : Yl P C n e ⟨dst, .move x, ty, pos, aft, gd⟩ v := fun a w ha _ => by simp [execOp, ha.eval hx]
theorem Y_assign (hx : opv e x = some v) : Yl P C n e ⟨dst, .assign x, ty, pos, aft, gd⟩ v := fun a w ha _ => by simp [execOp, ha.eval hx]
theorem Y_pick_t {c : Operand} (hc : opv e c = some (.bool true)) (hx : opv e x = some v) : Yl P C n e ⟨dst, .pick c x y, ty, pos, aft, gd⟩ v := fun a w ha _ => by
  simp [execOp, ha.eval hx, ha.eval hc, asBool]
theorem Y_pick_f {c : Operand} (hc : opv e c = some (.bool false)) (hx : opv e y = some v) : Yl P C n e ⟨dst, .pick c x y, ty, pos, aft, gd⟩ v := fun a w ha _ => by
  simp [execOp, ha.eval hx, ha.eval hc, asBool]

section ints
variable {kd : IntKind}
theorem run_bin (op : BinOp) (w : World) (hs : op ≠ .shl) (hr : op ≠ .shr) : (do eqGuard op t x y (.int kd p) (.int kd q); binOp op t (.int kd p) (.int kd q) : Sem Value).run P w = (binOp op t (.int kd p) (.int kd q)).run P w := by
  unfold eqGuard
  cases op <;> simp at hs hr ⊢
theorem Y_wrap (op : BinOp) (g : Int → Int → Int) (hg : ∀ p q w, (Op.intArith op kd p q).run P w = .ok (.int kd (kd.wrap (g p q))) w) (hop : op = .add ∨ op = .sub ∨ op = .mul) (hx : opv e x = some (.int kd p)) (hy : opv e y = some (.int kd q)) :
    Yl P C n e ⟨dst, .binOp op t x y t2, ty, pos, aft, gd⟩ (.int kd (kd.wrap (g p q))) := fun a w ha _ => by
  simp only [execOp, ha.eval hx, ha.eval hy]
  simp only [Sem.run_bind, run_bin op w (by rcases hop with h | h | h <;> subst h <;> simp) (by rcases hop with h | h | h <;> subst h <;> simp)]
  rcases hop with h | h | h <;> subst h <;> simp [binOp, hg]
theorem Y_addw (hx : opv e x = some (.int kd p)) (hy : opv e y = some (.int kd q)) : Yl P C n e ⟨dst, .binOp .add t x y t2, ty, pos, aft, gd⟩ (.int kd (kd.wrap (p + q))) :=
  Y_wrap .add (· + ·) (fun _ _ _ => rfl) (by simp) hx hy
theorem Y_subw (hx : opv e x = some (.int kd p)) (hy : opv e y = some (.int kd q)) : Yl P C n e ⟨dst, .binOp .sub t x y t2, ty, pos, aft, gd⟩ (.int kd (kd.wrap (p - q))) :=
  Y_wrap .sub (· - ·) (fun _ _ _ => rfl) (by simp) hx hy
theorem Y_mulw (hx : opv e x = some (.int kd p)) (hy : opv e y = some (.int kd q)) : Yl P C n e ⟨dst, .binOp .mul t x y t2, ty, pos, aft, gd⟩ (.int kd (kd.wrap (p * q))) :=
  Y_wrap .mul (· * ·) (fun _ _ _ => rfl) (by simp) hx hy
theorem wrap_in {m : Int} (h : -9223372036854775808 ≤ m ∧ m ≤ 9223372036854775807) : IntKind.i64.wrap m = m := by
  unfold IntKind.wrap
  simp [IntKind.bits, IntKind.signed]
  split <;> omega
theorem Y_add (hx : opv e x = some (.int .i64 p)) (hy : opv e y = some (.int .i64 q)) (hb : -9223372036854775808 ≤ p + q ∧ p + q ≤ 9223372036854775807) : Yl P C n e ⟨dst, .binOp .add t x y t2, ty, pos, aft, gd⟩ (.int .i64 (p + q)) := by
  have h := Y_addw (P := P) (C := C) (n := n) (dst := dst) (t := t) (t2 := t2) (ty := ty) (pos := pos) (aft := aft) (gd := gd) hx hy
  rwa [wrap_in hb] at h
theorem Y_sub (hx : opv e x = some (.int .i64 p)) (hy : opv e y = some (.int .i64 q)) (hb : -9223372036854775808 ≤ p - q ∧ p - q ≤ 9223372036854775807) : Yl P C n e ⟨dst, .binOp .sub t x y t2, ty, pos, aft, gd⟩ (.int .i64 (p - q)) := by
  have h := Y_subw (P := P) (C := C) (n := n) (dst := dst) (t := t) (t2 := t2) (ty := ty) (pos := pos) (aft := aft) (gd := gd) hx hy
  rwa [wrap_in hb] at h
theorem Y_mul (hx : opv e x = some (.int .i64 p)) (hy : opv e y = some (.int .i64 q)) (hb : -9223372036854775808 ≤ p * q ∧ p * q ≤ 9223372036854775807) : Yl P C n e ⟨dst, .binOp .mul t x y t2, ty, pos, aft, gd⟩ (.int .i64 (p * q)) := by
  have h := Y_mulw (P := P) (C := C) (n := n) (dst := dst) (t := t) (t2 := t2) (ty := ty) (pos := pos) (aft := aft) (gd := gd) hx hy
  rwa [wrap_in hb] at h
theorem Y_cmp (op : BinOp) (r : Bool) (hg : ∀ w, (binOp op t (.int kd p) (.int kd q)).run P w = .ok (.bool r) w) (hs : op ≠ .shl) (hr : op ≠ .shr) (hx : opv e x = some (.int kd p)) (hy : opv e y = some (.int kd q)) :
    Yl P C n e ⟨dst, .binOp op t x y t2, ty, pos, aft, gd⟩ (.bool r) := fun a w ha _ => by
  simp only [execOp, ha.eval hx, ha.eval hy]
  simp only [Sem.run_bind, run_bin op w hs hr, hg]
  rfl
theorem Y_lss (hx : opv e x = some (.int kd p)) (hy : opv e y = some (.int kd q)) : Yl P C n e ⟨dst, .binOp .lss t x y t2, ty, pos, aft, gd⟩ (.bool (decide (p < q))) :=
  Y_cmp .lss _ (fun w => by simp [binOp, Op.intCmp]) (by simp) (by simp) hx hy
theorem Y_leq (hx : opv e x = some (.int kd p)) (hy : opv e y = some (.int kd q)) : Yl P C n e ⟨dst, .binOp .leq t x y t2, ty, pos, aft, gd⟩ (.bool (decide (p ≤ q))) :=
  Y_cmp .leq _ (fun w => by simp [binOp, Op.intCmp]) (by simp) (by simp) hx hy
theorem Y_gtr (hx : opv e x = some (.int kd p)) (hy : opv e y = some (.int kd q)) : Yl P C n e ⟨dst, .binOp .gtr t x y t2, ty, pos, aft, gd⟩ (.bool (decide (q < p))) :=
  Y_cmp .gtr _ (fun w => by simp [binOp, Op.intCmp]) (by simp) (by simp) hx hy
theorem Y_geq (hx : opv e x = some (.int kd p)) (hy : opv e y = some (.int kd q)) : Yl P C n e ⟨dst, .binOp .geq t x y t2, ty, pos, aft, gd⟩ (.bool (decide (q ≤ p))) :=
  Y_cmp .geq _ (fun w => by simp [binOp, Op.intCmp]) (by simp) (by simp) hx hy
theorem beq_dec (p q : Int) : (p == q) = decide (p = q) := by by_cases h : p = q <;> simp [h]
theorem bne_dec (p q : Int) : (p != q) = decide (p ≠ q) := by by_cases h : p = q <;> simp [h]
theorem Y_gtr_t (hx : opv e x = some (.int kd p)) (hy : opv e y = some (.int kd q)) (h : q < p) : Yl P C n e ⟨dst, .binOp .gtr t x y t2, ty, pos, aft, gd⟩ (.bool true) := by have := Y_gtr (P := P) (C := C) (n := n) (dst := dst) (t := t) (t2 := t2) (ty := ty) (pos := pos) (aft := aft) (gd := gd) hx hy; rwa [decide_eq_true h] at this
theorem Y_gtr_f (hx : opv e x = some (.int kd p)) (hy : opv e y = some (.int kd q)) (h : ¬ q < p) : Yl P C n e ⟨dst, .binOp .gtr t x y t2, ty, pos, aft, gd⟩ (.bool false) := by have := Y_gtr (P := P) (C := C) (n := n) (dst := dst) (t := t) (t2 := t2) (ty := ty) (pos := pos) (aft := aft) (gd := gd) hx hy; rwa [decide_eq_false h] at this
theorem Y_eql (hx : opv e x = some (.int kd p)) (hy : opv e y = some (.int kd q)) : Yl P C n e ⟨dst, .binOp .eql t x y t2, ty, pos, aft, gd⟩ (.bool (decide (p = q))) :=
  Y_cmp .eql _ (fun w => by simp [binOp, Op.intCmp, beq_dec]) (by simp) (by simp) hx hy
theorem Y_neq (hx : opv e x = some (.int kd p)) (hy : opv e y = some (.int kd q)) : Yl P C n e ⟨dst, .binOp .neq t x y t2, ty, pos, aft, gd⟩ (.bool (decide (p ≠ q))) :=
  Y_cmp .neq _ (fun w => by simp [binOp, Op.intCmp, bne_dec]) (by simp) (by simp) hx hy
theorem Y_rem (hx : opv e x = some (.int kd p)) (hy : opv e y = some (.int kd q)) (hq : q ≠ 0) : Yl P C n e ⟨dst, .binOp .rem t x y t2, ty, pos, aft, gd⟩ (.int kd (p.tmod q)) := fun a w ha _ => by
  simp only [execOp, ha.eval hx, ha.eval hy, Sem.run_bind, run_bin .rem w (by simp) (by simp)]
  simp [binOp, Op.intDiv, hq]
theorem Y_quo (hx : opv e x = some (.int kd p)) (hy : opv e y = some (.int kd q)) (hq : q ≠ 0) : Yl P C n e ⟨dst, .binOp .quo t x y t2, ty, pos, aft, gd⟩ (.int kd (kd.wrap (p.tdiv q))) := fun a w ha _ => by
  simp only [execOp, ha.eval hx, ha.eval hy, Sem.run_bind, run_bin .quo w (by simp) (by simp)]
  simp [binOp, Op.intDiv, hq]
theorem Y_min {ats : Array TypeId} (hx : opv e x = some (.int kd p)) (hy : opv e y = some (.int kd q)) : Yl P C n e ⟨dst, .call { callee := .builtin .min, args := #[x, y], argTypes := ats }, ty, pos, aft, gd⟩ (.int kd (min p q)) := fun a w ha _ => by
  have h : (if q < p then q else p) = min p q := by omega
  simp [execOp, resolve, invoke, builtin, Builtin.min_, Builtin.min2, ha.eval hx, ha.eval hy, h]
theorem Y_max {ats : Array TypeId} (hx : opv e x = some (.int kd p)) (hy : opv e y = some (.int kd q)) : Yl P C n e ⟨dst, .call { callee := .builtin .max, args := #[x, y], argTypes := ats }, ty, pos, aft, gd⟩ (.int kd (max p q)) := fun a w ha _ => by
  have h : (if q > p then q else p) = max p q := by omega
  simp [execOp, resolve, invoke, builtin, Builtin.max_, Builtin.max2, ha.eval hx, ha.eval hy, h]
theorem Y_conv {k2 : IntKind} [hv : VI P t t2 k2] (hx : opv e x = some (.int kd p)) : Yl P C n e ⟨dst, .convert t t2 x, ty, pos, aft, gd⟩ (.int k2 (k2.wrap p)) := fun a w ha _ => by
  obtain ⟨d, hd⟩ := hv.src
  simp [execOp, convert, ha.eval hx, run_underlying hd, run_underlying hv.dst, Conv.intToInt]
theorem Y_convU [hv : VI P t t2 .u64] (hx : opv e x = some (.int kd p)) (hb : 0 ≤ p ∧ p ≤ 9223372036854775807) : Yl P C n e ⟨dst, .convert t t2 x, ty, pos, aft, gd⟩ (.int .u64 p) := by
  have h := Y_conv (P := P) (C := C) (n := n) (dst := dst) (ty := ty) (pos := pos) (aft := aft) (gd := gd) (t := t) (t2 := t2) (k2 := .u64) hx
  rwa [show IntKind.u64.wrap p = p by unfold IntKind.wrap; simp [IntKind.bits, IntKind.signed]; omega] at h
theorem Y_convI [hv : VI P t t2 .i64] (hx : opv e x = some (.int kd p)) (hb : -9223372036854775808 ≤ p ∧ p ≤ 9223372036854775807) : Yl P C n e ⟨dst, .convert t t2 x, ty, pos, aft, gd⟩ (.int .i64 p) := by
  have h := Y_conv (P := P) (C := C) (n := n) (dst := dst) (ty := ty) (pos := pos) (aft := aft) (gd := gd) (t := t) (t2 := t2) (k2 := .i64) hx
  rwa [wrap_in hb] at h
theorem Y_shr {k2 : IntKind} (hx : opv e x = some (.int kd p)) (hy : opv e y = some (.int k2 q)) (hq : 0 ≤ q) : Yl P C n e ⟨dst, .binOp .shr t x y t2, ty, pos, aft, gd⟩ (.int kd (p / 2 ^ min q.toNat kd.bits)) := fun a w ha _ => by
  have h0 : (0 : Int) ≤ 2 ^ min q.toNat kd.bits := Int.le_of_lt (Int.pow_pos (by decide))
  simp [execOp, ha.eval hx, ha.eval hy, eqGuard, binOp, Op.shift, Int.not_lt.mpr hq, Int.fdiv_eq_ediv_of_nonneg _ h0]
theorem Y_half (hx : opv e x = some (.int .u64 p)) : Yl P C n e ⟨dst, .binOp .shr t x (.const (.int .u64 1)) t2, ty, pos, aft, gd⟩ (.int .u64 (p / 2)) := by
  have h := Y_shr (P := P) (C := C) (n := n) (dst := dst) (t := t) (t2 := t2) (ty := ty) (pos := pos) (aft := aft) (gd := gd) (kd := .u64) (k2 := .u64) (y := .const (.int .u64 1)) hx rfl (by decide)
  simpa [IntKind.bits] using h
end ints

theorem Y_not {r : Bool} (hx : opv e x = some (.bool r)) : Yl P C n e ⟨dst, .unOp .not t x, ty, pos, aft, gd⟩ (.bool (!r)) := fun a w ha _ => by simp [execOp, Op.unary, ha.eval hx]
theorem Y_not_d {r : Prop} {inst : Decidable r} (hx : opv e x = some (.bool (decide r))) : Yl P C n e ⟨dst, .unOp .not t x, ty, pos, aft, gd⟩ (.bool (decide (¬ r))) := fun a w ha _ => by simp [execOp, Op.unary, ha.eval hx]
theorem Y_neg {kd : IntKind} (hx : opv e x = some (.int kd p)) : Yl P C n e ⟨dst, .unOp .neg t x, ty, pos, aft, gd⟩ (.int kd (kd.wrap (0 - p))) := fun a w ha _ => by simp [execOp, Op.unary, Op.intArith, ha.eval hx]
theorem Y_nilCheck {p : Addr} (hx : opv e x = some (.pointer (some p))) : Yl P C n e ⟨dst, .nilCheck x, ty, pos, aft, gd⟩ (.pointer (some p)) := fun a w ha _ => by simp [execOp, ha.eval hx]
theorem Y_nilCheckF {g : Nat} {fs cap : Array Value} (hx : opv e x = some (.func (.func g) fs cap)) : Yl P C n e ⟨dst, .nilCheck x, ty, pos, aft, gd⟩ (.func (.func g) fs cap) := fun a w ha _ => by simp [execOp, ha.eval hx]
theorem eval_const (a : Act) (u : Value) : a.eval (.const u) = u := rfl
theorem guard_nilp (op : BinOp) (pp : Option Addr) (w : World) : (eqGuard op t x y (.pointer pp) (.pointer none)).run P w = .ok () w := by unfold eqGuard; split <;> rfl
theorem guard_nils (op : BinOp) (A : Option Addr) (m c : Nat) (w : World) : (eqGuard op t x y (.slice A m c) (.slice none 0 0)).run P w = .ok () w := by unfold eqGuard; split <;> rfl
theorem Y_pnil [h : PI P t] {pp : Option Addr} (hx : opv e x = some (.pointer pp)) : Yl P C n e ⟨dst, .binOp .eql t x (.const (.pointer none)) t2, ty, pos, aft, gd⟩ (.bool pp.isNone) := fun a w ha _ => by
  simp only [execOp, ha.eval hx, eval_const, Sem.run_bind, guard_nilp, Result.andThen_ok, run_eql_pointer_nil w t pp h.und]; rfl
theorem Y_pnn [h : PI P t] {pp : Option Addr} (hx : opv e x = some (.pointer pp)) : Yl P C n e ⟨dst, .binOp .neq t x (.const (.pointer none)) t2, ty, pos, aft, gd⟩ (.bool (!pp.isNone)) := fun a w ha _ => by
  simp only [execOp, ha.eval hx, eval_const, Sem.run_bind, guard_nilp, Result.andThen_ok, run_neq_pointer_nil w t pp h.und]; rfl
theorem Y_pnil_t [h : PI P t] (hx : opv e x = some (.pointer none)) : Yl P C n e ⟨dst, .binOp .eql t x (.const (.pointer none)) t2, ty, pos, aft, gd⟩ (.bool true) := Y_pnil hx
theorem Y_pnil_f [h : PI P t] {p : Addr} (hx : opv e x = some (.pointer (some p))) : Yl P C n e ⟨dst, .binOp .eql t x (.const (.pointer none)) t2, ty, pos, aft, gd⟩ (.bool false) := Y_pnil hx
theorem Y_pnn_t [h : PI P t] (hx : opv e x = some (.pointer none)) : Yl P C n e ⟨dst, .binOp .neq t x (.const (.pointer none)) t2, ty, pos, aft, gd⟩ (.bool false) := Y_pnn hx
theorem Y_pnn_f [h : PI P t] {p : Addr} (hx : opv e x = some (.pointer (some p))) : Yl P C n e ⟨dst, .binOp .neq t x (.const (.pointer none)) t2, ty, pos, aft, gd⟩ (.bool true) := Y_pnn hx
theorem Y_snil {s : Nat} {el : TypeId} [h : SI P t el s] {A : Option Addr} {m c : Nat} (hx : opv e x = some (.slice A m c)) : Yl P C n e ⟨dst, .binOp .eql t x (.const (.slice none 0 0)) t2, ty, pos, aft, gd⟩ (.bool A.isNone) := fun a w ha _ => by
  simp only [execOp, ha.eval hx, eval_const, Sem.run_bind, guard_nils, Result.andThen_ok, Lib.run_eql_slice_nil w t el A m c 0 0 h.und]; rfl
theorem Y_extract {vs : List Value} {i : Nat} (hx : opv e x = some (.tuple vs.toArray)) (hi : vs[i]? = some v) : Yl P C n e ⟨dst, .extract x i, ty, pos, aft, gd⟩ v := fun a w ha _ => by
  simp [execOp, Instr.extract, ha.eval hx, hi]
theorem Y_len {el : TypeId} {s : Nat} [h : SI P t el s] {A : Option Addr} {m c : Nat} (hx : opv e x = some (.slice A m c)) : Yl P C n e ⟨dst, .call { callee := .builtin .len, args := #[x], argTypes := #[t] }, ty, pos, aft, gd⟩ (.int .i64 (m : Int)) := fun a w ha _ => by
  simp [execOp, resolve, invoke, builtin, Builtin.len_, goInt, ha.eval hx, run_underlying h.und]
theorem Y_fieldAddr {i off o' : Nat} [h : FI P t i off] (hx : opv e x = some (.pointer (some ⟨b, o, none⟩))) (ho : o + off = o') : Yl P C n e ⟨dst, .fieldAddr t x i, ty, pos, aft, gd⟩ (.pointer (some ⟨b, o', none⟩)) := fun a w ha _ => by
  subst ho
  simp [execOp, ha.eval hx, h.run, add_lit]
theorem Y_indexAddr {el : TypeId} {s : Nat} [h : SI P t el s] {A : Addr} {m c : Nat} (hx : opv e x = some (.slice (some A) m c)) (hy : opv e y = some (.int .i64 p)) (h0 : 0 ≤ p ∧ p < (m : Int)) :
    Yl P C n e ⟨dst, .indexAddr t x y, ty, pos, aft, gd⟩ (.pointer (some (A.add (p.toNat * s)))) := fun a w ha _ => by
  simp [execOp, Instr.indexAt, asIntOf, ha.eval hx, ha.eval hy, run_underlying h.und, h.sizeOf, h0.1, h0.2]
theorem Y_makeFunc {g : Nat} {xs : List Operand} {l : List Value} (hx : opvs e xs = some l) : Yl P C n e ⟨dst, .makeFunc (.func g) #[] xs.toArray, ty, pos, aft, gd⟩ (.func (.func g) #[] l.toArray) := fun a w ha _ => by
  simp [execOp, Instr.makeFunc, ha.evals hx]
def bvs (e : Env) : List (Nat × Operand) → Option (List (Nat × Value))
  | [] => some []
  | q :: r => match opv e q.2, bvs e r with
    | some v, some vs => some ((q.1, v) :: vs)
    | _, _ => none
theorem bvs_eq {a : Act} (ha : Fits n e a) : ∀ (ps : List (Nat × Operand)) (vs : List (Nat × Value)), bvs e ps = some vs → ps.map (fun q => (q.1, a.eval q.2)) = vs
  | [], vs, h => by simp [bvs] at h; simp [← h]
  | q :: r, vs, h => by
    unfold bvs at h
    split at h
    · rename_i v vs' h1 h2
      cases h
      rw [List.map_cons, bvs_eq ha r vs' h2, ha.eval h1]
    · cases h
theorem Y_build {ps : List (Nat × Operand)} {vs : List (Nat × Value)} (hx : bvs e ps = some vs) (h : BI P t vs cs) : Yl P C n e ⟨dst, .build t ps.toArray, ty, pos, aft, gd⟩ (.agg cs.toArray) := fun a w ha _ => by
  have h1 := h.run w
  simp only [execOp, List.map_toArray, bvs_eq ha ps vs hx]
  simp [h1]

/-- A slice of a slice from its begin on. -/
theorem Y_slice_h {el : TypeId} {s : Nat} [h : SI P t el s] {A : Option Addr} {m c : Nat} (hx : opv e x = some (.slice A m c)) (hy : opv e y = some (.int .i64 p)) (h0 : 0 ≤ p ∧ p ≤ (c : Int)) :
    Yl P C n e ⟨dst, .slice t x none (some y) none, ty, pos, aft, gd⟩ (.slice A p.toNat c) := fun a w ha _ => by
  have h2 : (if c = 0 then A else A.map (·.add 0)) = A := by cases A <;> simp [Addr.add]
  simp [execOp, Instr.sliceAt, Instr.slice, Instr.sliceBounds, Instr.sliceBound, asIntOf, ha.eval hx, ha.eval hy, run_underlying h.und, h.sizeOf, h0.1, h0.2]
  cases A <;> simp [Addr.add]
/-- Where a slice begins that is cut at m. -/
def cutA (A : Option Addr) (c m s : Nat) : Option Addr := if c = m then A else A.map (·.add (m * s))
theorem Y_slice_l {el : TypeId} {s : Nat} [h : SI P t el s] {A : Option Addr} {m c : Nat} (hx : opv e x = some (.slice A m c)) (hy : opv e y = some (.int .i64 p)) (h0 : 0 ≤ p ∧ p ≤ (m : Int)) :
    Yl P C n e ⟨dst, .slice t x (some y) none none, ty, pos, aft, gd⟩ (.slice (cutA A c p.toNat s) (m - p.toNat) (c - p.toNat)) := fun a w ha _ => by
  simp [execOp, Instr.sliceAt, Instr.slice, Instr.sliceBounds, Instr.sliceBound, asIntOf, ha.eval hx, ha.eval hy, run_underlying h.und, h.sizeOf, h0.1, h0.2, cutA]
theorem Y_slice_lh {el : TypeId} {s : Nat} [h : SI P t el s] {A : Option Addr} {m c : Nat} (hx : opv e x = some (.slice A m c)) (hy : opv e y = some (.int .i64 p)) (hz : opv e z = some (.int .i64 q)) (h0 : 0 ≤ p ∧ p ≤ q ∧ q ≤ (c : Int)) :
    Yl P C n e ⟨dst, .slice t x (some y) (some z) none, ty, pos, aft, gd⟩ (.slice (cutA A c p.toNat s) (q.toNat - p.toNat) (c - p.toNat)) := fun a w ha _ => by
  have h4 : 0 ≤ q := by omega
  have h5 : max q 0 = q := by omega
  simp [execOp, Instr.sliceAt, Instr.slice, Instr.sliceBounds, Instr.sliceBound, asIntOf, ha.eval hx, ha.eval hy, ha.eval hz, run_underlying h.und, h.sizeOf, h0.1, h0.2.1, h0.2.2, h4, h5, cutA]

/-! ### Loads, stores, new blocks -/
theorem Y_loadP {p : Addr} (hx : opv e x = some (.pointer (some p))) (hl : ∀ w, C w → Lds P t p v w) : Yl P C n e ⟨dst, .load t x, ty, pos, aft, gd⟩ v := fun a w ha hw => by
  have h := hl w hw
  unfold Lds at h
  simp [execOp, Instr.loadAt, Instr.sureAddr, ha.eval hx, h]
theorem Lds.one {s : Nat} {zv : Value} [h : TI P t false s zv] {bt : TypeId} {cs : Array Value} {fr : Nat × Nat} (hb : w.heap[b]? = some (.cells cs bt fr)) (hv : cs[o]? = some v) : Lds P t ⟨b, o, none⟩ v w := by
  have hc : w.cell? ⟨b, o, none⟩ = some v := by simp [World.cell?, hb, hv]
  simp [Lds, loadVar, h.isAgg, hc]
theorem Lds.many {s : Nat} {zv : Value} [h : TI P t true s zv] {bt : TypeId} {cs : Array Value} {fr : Nat × Nat} (hb : w.heap[b]? = some (.cells cs bt fr)) (hv : (cs.toList.drop o).take s = l) (hl : l.length = s) : Lds P t ⟨b, o, none⟩ (.agg l.toArray) w := by
  have h1 := run_loadCells_list (P := P) (w := w) ⟨b, o, none⟩ l (fun j v hj => by
    rw [add_lit]
    rw [← hv, List.getElem?_take] at hj
    split at hj
    · rw [List.getElem?_drop] at hj
      simpa [World.cell?, hb] using hj
    · cases hj)
  rw [hl] at h1
  simp [Lds, loadVar, h.isAgg, h.sizeOf, h1]
theorem Y_load1 {s : Nat} {zv : Value} {bt : TypeId} (i : Nat) (hx : opv e x = some (.pointer (some ⟨b, o, none⟩))) (hH : H[i]? = some ⟨b, cs, bt⟩) (hv : cs[o]? = some v) (h : TI P t false s zv) :
    Yl P (Cls w0 D H) n e ⟨dst, .load t x, ty, pos, aft, gd⟩ v := Y_loadP hx fun w hw => Lds.one (hw.has _ (List.mem_of_getElem? hH)) (by simpa using hv)
/-- A whole block. -/
theorem Y_loadW {s : Nat} {zv : Value} {bt : TypeId} (i : Nat) (hx : opv e x = some (.pointer (some ⟨b, 0, none⟩))) (hH : H[i]? = some ⟨b, cs, bt⟩) (h : TI P t true s zv) (hl : cs.length = s) :
    Yl P (Cls w0 D H) n e ⟨dst, .load t x, ty, pos, aft, gd⟩ (.agg cs.toArray) := Y_loadP hx fun w hw => Lds.many (hw.has _ (List.mem_of_getElem? hH)) (by simp [← hl]) hl
theorem Y_loadS {s : Nat} {zv : Value} {bt : TypeId} (i : Nat) (hx : opv e x = some (.pointer (some ⟨b, o, none⟩))) (hH : H[i]? = some ⟨b, cs, bt⟩) (h : TI P t true s zv) (hv : (cs.drop o).take s = l) (hl : l.length = s) :
    Yl P (Cls w0 D H) n e ⟨dst, .load t x, ty, pos, aft, gd⟩ (.agg l.toArray) := Y_loadP hx fun w hw => Lds.many (hw.has _ (List.mem_of_getElem? hH)) (by simpa using hv) hl

theorem JL.alloc {ag : Bool} {s : Nat} {zv : Value} [h : TI P t ag s zv] (hz : zv.cells = cs.toArray) (hd : Nat.blt d n = true)
    (hk : ∀ b, JL P f n R (Cls w0 D (⟨b, cs, t⟩ :: H)) ops rest k ((d, .pointer (some ⟨b, 0, none⟩)) :: e)) : JL P f n R (Cls w0 D H) ops (⟨some d, .alloc t, ty, pos, aft, none⟩ :: rest) k e := by
  refine JL.x (X := Nat) (vx := fun b => .pointer (some ⟨b, 0, none⟩)) (Cx := fun b => Cls w0 D (⟨b, cs, t⟩ :: H)) (fun a w ha hw => ⟨w.heap.size, w.alloc (.cells cs.toArray t), ?_, hw.alloc cs t⟩) hd hk
  simp [execOp, Instr.alloc, newVar, newRow, h.zero, hz]
theorem JL.box (hx : opv e x = some v) (hz : v.cells = cs.toArray) (hd : Nat.blt d n = true)
    (hk : ∀ b, JL P f n R (Cls w0 D (⟨b, cs, t⟩ :: H)) ops rest k ((d, .pointer (some ⟨b, 0, none⟩)) :: e)) : JL P f n R (Cls w0 D H) ops (⟨some d, .box t x, ty, pos, aft, none⟩ :: rest) k e := by
  refine JL.x (X := Nat) (vx := fun b => .pointer (some ⟨b, 0, none⟩)) (Cx := fun b => Cls w0 D (⟨b, cs, t⟩ :: H)) (fun a w ha hw => ⟨w.heap.size, w.alloc (.cells cs.toArray t), ?_, hw.alloc cs t⟩) hd hk
  simp [execOp, Instr.box, newVar, newRow, ha.eval hx, hz]
theorem run_storeVar {ag : Bool} {s : Nat} {zv : Value} [h : TI P t ag s zv] {bt : TypeId} (hb : w.heap[b]? = some (.cells cs.toArray bt (0, 0))) (hv : v.cells = l.toArray) (hl : l.length = s) (hs : o + s ≤ cs.length) (h1 : ∀ u ∈ l, u.oneCell' = true) :
    (storeVar t ⟨b, o, none⟩ v).run P w = .ok () (w.setRow b (cs.take o ++ l ++ cs.drop (o + s)).toArray) := by
  have hst := run_storeCells_at P b o bt l 0 cs.toArray w hb (by simp; omega) h1
  simp [storeVar, h.sizeOf, hv, hl, hst]
/-- What a store into a known block leaves. -/
def Stores (P : Program) (n : Nat) (e : Env) (C C' : World → Prop) (o : Oper) : Prop := ∀ a w, Fits n e a → C w → ∃ w', (execOp a.eval o).run P w = .ok .skip w' ∧ C' w'
theorem St_at {ag : Bool} {s : Nat} {zv : Value} [h : TI P t ag s zv] {bt : TypeId} (i : Nat) (hx : opv e x = some (.pointer (some ⟨b, o, none⟩))) (hy : opv e y = some v) (hH : H[i]? = some ⟨b, cs, bt⟩) (hv : v.cells = l.toArray) (hl : l.length = s) (hs : o + s ≤ cs.length) (h1 : ∀ u ∈ l, u.oneCell' = true)
    (hn : H.set i ⟨b, cs.take o ++ l ++ cs.drop (o + s), bt⟩ = H') : Stores P n e (Cls w0 D H) (Cls w0 D H') ⟨dst, .store t x y, ty, pos, aft, gd⟩ := by
  subst hn
  refine fun a w ha hw => ⟨_, ?_, hw.set hH⟩
  have := run_storeVar (P := P) (w := w) (t := t) (v := v) (hw.has _ (List.mem_of_getElem? hH)) hv hl hs h1
  simp [execOp, Instr.storeAt, Instr.sureAddr, ha.eval hx, ha.eval hy, this]
/-- .. of a whole block. -/
theorem St_W {s : Nat} {zv : Value} {bt : TypeId} (i : Nat) (hx : opv e x = some (.pointer (some ⟨b, 0, none⟩))) (hy : opv e y = some (.agg l.toArray)) (hH : H[i]? = some ⟨b, cs, bt⟩) (h : TI P t true s zv) (hl : l.length = s) (hs : cs.length = s) (h1 : ∀ u ∈ l, u.oneCell' = true)
    (hn : H.set i ⟨b, l, bt⟩ = H') : Stores P n e (Cls w0 D H) (Cls w0 D H') ⟨dst, .store t x y, ty, pos, aft, gd⟩ :=
  St_at i hx hy hH rfl hl (by omega) h1 (by rw [← hn, hs.symm]; simp)
/-- .. of one cell. -/
theorem St_1 {zv : Value} {bt : TypeId} (i : Nat) (hx : opv e x = some (.pointer (some ⟨b, o, none⟩))) (hy : opv e y = some v) (h : TI P t false 1 zv) (hv : v.oneCell' = true) (hH : H[i]? = some ⟨b, cs, bt⟩) (hs : Nat.blt o cs.length = true)
    (hn : H.set i ⟨b, cs.set o v, bt⟩ = H') : Stores P n e (Cls w0 D H) (Cls w0 D H') ⟨dst, .store t x y, ty, pos, aft, gd⟩ := by
  have hlt : o < cs.length := by simpa using hs
  refine St_at (l := [v]) i hx hy hH (by cases v <;> simp [Value.oneCell', Value.cells] at hv ⊢) rfl (by simp; omega) (by simpa using hv) ?_
  rw [← hn]
  congr 2
  rw [List.set_eq_take_append_cons_drop, if_pos hlt]; simp
theorem JL.store (h : Stores P n e C C' ⟨none, .store t x y, ty, pos, aft, none⟩) (hk : JL P f n R C' ops rest k e) : JL P f n R C ops (⟨none, .store t x y, ty, pos, aft, none⟩ :: rest) k e := JL.st h hk

/-! ### Calls -/
/-- The callee computes v, makes garbage at most. -/
theorem JL.callq {g : Nat} {xs : List Operand} {l : List Value} {ats : Array TypeId} [hc : CI P g] (hx : opvs e xs = some l) (hd : Nat.blt d n = true)
    (h : ∀ w, Cls w0 D H w → Calls P g l.toArray w fun e w' => e = .returned v ∧ Ext No w w')
    (hk : JL P f n R (Cls w0 D H) ops rest k ((d, v) :: e)) : JL P f n R (Cls w0 D H) ops (⟨some d, .call { callee := .value (.func g), args := xs.toArray, argTypes := ats }, ty, pos, aft, none⟩ :: rest) k e := by
  intro w hw a ha
  refine wpList_call rfl (by have := run_call (ty := ty) (pos := pos) (aft := aft) (dst := some d) (gd := none) (ats := ats) (x := .func g) (cap := #[]) ha rfl hx hc.run w; simpa using this) ((h w hw).mono fun en w' he => ?_)
  obtain ⟨rfl, hE⟩ := he
  exact ⟨v, rfl, hk w' (hw.ext0 hE) _ (ha.put (by simpa using hd) v)⟩
/-- The same of a function value. -/
theorem JL.callqC {g : Nat} {xs : List Operand} {l cap : List Value} {ats : Array TypeId} (hf : opv e x = some (.func (.func g) #[] cap.toArray)) (hc : CI P g) (hx : opvs e xs = some l) (hd : Nat.blt d n = true)
    (h : ∀ w, Cls w0 D H w → Calls P g (l ++ cap).toArray w fun e w' => e = .returned v ∧ Ext No w w')
    (hk : JL P f n R (Cls w0 D H) ops rest k ((d, v) :: e)) : JL P f n R (Cls w0 D H) ops (⟨some d, .call { callee := .value x, args := xs.toArray, argTypes := ats }, ty, pos, aft, none⟩ :: rest) k e := by
  intro w hw a ha
  refine wpList_call rfl (by have := run_call (ty := ty) (pos := pos) (aft := aft) (dst := some d) (gd := none) (ats := ats) ha hf hx hc.run w; simpa using this) ((h w hw).mono fun en w' he => ?_)
  obtain ⟨rfl, hE⟩ := he
  exact ⟨v, rfl, hk w' (hw.ext0 hE) _ (ha.put (by simpa using hd) v)⟩
/-- Any call: what it leaves is told of the world that it left. -/
theorem JL.call {g : Nat} {xs : List Operand} {l : List Value} {ats : Array TypeId} [hc : CI P g] (Φ : World → Value → World → Prop) (hx : opvs e xs = some l) (hd : Nat.blt d n = true)
    (h : ∀ w, C w → Calls P g l.toArray w fun e w' => ∃ v, e = .returned v ∧ Φ w v w')
    (hk : ∀ w v w', C w → Φ w v w' → GL P f n R ops rest k ((d, v) :: e) w') : JL P f n R C ops (⟨some d, .call { callee := .value (.func g), args := xs.toArray, argTypes := ats }, ty, pos, aft, none⟩ :: rest) k e := by
  intro w hw a ha
  refine wpList_call rfl (by have := run_call (ty := ty) (pos := pos) (aft := aft) (dst := some d) (gd := none) (ats := ats) (x := .func g) (cap := #[]) ha rfl hx hc.run w; simpa using this) ((h w hw).mono fun en w' he => ?_)
  obtain ⟨v, rfl, hE⟩ := he
  exact ⟨v, rfl, hk w v w' hw hE _ (ha.put (by simpa using hd) v)⟩
theorem JL.callC {g : Nat} {xs : List Operand} {l : List Value} {cap : List Value} {ats : Array TypeId} (Φ : World → Value → World → Prop) (hf : opv e x = some (.func (.func g) #[] cap.toArray)) (hc : CI P g) (hx : opvs e xs = some l) (hd : Nat.blt d n = true)
    (h : ∀ w, C w → Calls P g (l ++ cap).toArray w fun e w' => ∃ v, e = .returned v ∧ Φ w v w')
    (hk : ∀ w v w', C w → Φ w v w' → GL P f n R ops rest k ((d, v) :: e) w') : JL P f n R C ops (⟨some d, .call { callee := .value x, args := xs.toArray, argTypes := ats }, ty, pos, aft, none⟩ :: rest) k e := by
  intro w hw a ha
  refine wpList_call rfl (by have := run_call (ty := ty) (pos := pos) (aft := aft) (dst := some d) (gd := none) (ats := ats) ha hf hx hc.run w; simpa using this) ((h w hw).mono fun en w' he => ?_)
  obtain ⟨v, rfl, hE⟩ := he
  exact ⟨v, rfl, hk w v w' hw hE _ (ha.put (by simpa using hd) v)⟩
/-- .. whose result nobody takes. -/
theorem JL.call0 {g : Nat} {xs : List Operand} {l : List Value} {ats : Array TypeId} [hc : CI P g] (Φ : World → Value → World → Prop) (hx : opvs e xs = some l)
    (h : ∀ w, C w → Calls P g l.toArray w fun e w' => ∃ v, e = .returned v ∧ Φ w v w')
    (hk : ∀ w v w', C w → Φ w v w' → GL P f n R ops rest k e w') : JL P f n R C ops (⟨none, .call { callee := .value (.func g), args := xs.toArray, argTypes := ats }, ty, pos, aft, none⟩ :: rest) k e := by
  intro w hw a ha
  refine wpList_call rfl (by have := run_call (ty := ty) (pos := pos) (aft := aft) (dst := none) (gd := none) (ats := ats) (x := .func g) (cap := #[]) ha rfl hx hc.run w; simpa using this) ((h w hw).mono fun en w' he => ?_)
  obtain ⟨v, rfl, hE⟩ := he
  exact ⟨v, rfl, hk w v w' hw hE _ (ha.put0 v)⟩

/-! ### Guards -/
theorem JL.guard_no {op : Op} {j dj : Nat} {wt r : Bool} (hj : (ops[j]?).bind (·.dst) = some dj) (hjn : Nat.blt dj n = true) (hv : e.get dj = some (.bool r)) (hr : (r == wt) = false) (hd : Nat.blt d n = true)
    (hk : JL P f n R C ops rest k ((d, undef) :: e)) : JL P f n R C ops (⟨some d, op, ty, pos, aft, some (j, wt)⟩ :: rest) k e := by
  intro w hw a ha
  have h1 := ha.get dj _ hv
  have hlt : dj < a.tmps.size := by rw [ha.sz]; simpa using hjn
  have hy : yielded ops a.tmps j = some r := by
    simp only [Array.getD_eq_getD_getElem?, Array.getElem?_eq_getElem hlt, Option.getD_some] at h1
    simp [yielded, hj, Array.getElem?_eq_getElem hlt, h1]
  unfold wpList
  have hne : (some r == some wt) = false := by simpa using hr
  simp only [Region.wanted, hy, hne, Bool.false_eq_true, if_false]
  exact hk w hw _ (ha.put (by simpa using hd) _)
theorem JL.guard_yes {op : Op} {j dj : Nat} {wt : Bool} {ds : Option Tmp} (hj : (ops[j]?).bind (·.dst) = some dj) (hjn : Nat.blt dj n = true) (hv : e.get dj = some (.bool wt))
    (hk : JL P f n R C ops (⟨ds, op, ty, pos, aft, none⟩ :: rest) k e) : JL P f n R C ops (⟨ds, op, ty, pos, aft, some (j, wt)⟩ :: rest) k e := by
  intro w hw a ha
  have h1 := ha.get dj _ hv
  have hlt : dj < a.tmps.size := by rw [ha.sz]; simpa using hjn
  have hy : yielded ops a.tmps j = some wt := by
    simp only [Array.getD_eq_getD_getElem?, Array.getElem?_eq_getElem hlt, Option.getD_some] at h1
    simp [yielded, hj, Array.getElem?_eq_getElem hlt, h1]
  have h2 := hk w hw a ha
  unfold wpList at h2 ⊢
  simp only [Region.wanted, if_true] at h2
  simp only [Region.wanted, hy, beq_self_eq_true, if_true]
  exact h2
end
end Go.Proofs.Ytmkpbbdocndfbaa
/- The engine: regions whose order is drawn (own work, over the printed words' WLast). -/
namespace Go.Proofs.Ytmkpbbdocndfbaa
open Go.RowKit Go.Proofs.YtmkpbbdocndfbaaW.PrintLast

class Wide (P : Program) : Prop where
  h : P.follows .mixedOrders = true

section
variable {P : Program} {f n : Nat} {R : Ending → World → Prop} {k : List Item} {e e' : Env} {w w' w0 : World} {a : Act} {C C' S : World → Prop} {D : Nat → Prop} {H H' : List Blk}
variable {ops : Array Oper} {ty t t2 : TypeId} {pos : String} {aft : Array Edge} {d fuel : Nat} {v : Value} {x y z : Operand} {dst : Option Tmp} {p q : Int} {b o : Nat} {cs : List Value} {ds : List Nat} {l : Array Bool} {op : Op}

/-- In a region that draws its order: l has come up; S holds behind each operation but those of ds. -/
def DR (P : Program) (f n : Nat) (R : Ending → World → Prop) (S : World → Prop) (ds : List Nat) (ops : Array Oper) (fuel : Nat) (l : Array Bool) (k : List Item) (e : Env) (w : World) : Prop :=
  ∀ a, Fits n e a → wpAnyLast P .any ops (GQ P f R k) S ds fuel l a w

theorem J.draw [hm : Wide P] {id m : Nat} (S : World → Prop) (ds : List Nat) (l0 : Array Bool) (hn : ops.size = m) (hl : Array.replicate m false = l0) (hC : ∀ w, C w → S w.drew)
    (h : ∀ w, S w → DR P f n R S ds ops m l0 k e w) : J P f n R C (.code (.region id ops true) :: k) e :=
  fun w hw a ha => .of_wp (start_ l0 hm.h hn hl (hC w hw) fun hS => h _ hS a ha)
theorem DR.done (hr : (Region.ready .any ops l == []) = true) (h : G P f n R k e w) : DR P f n R S ds ops fuel l k e w := fun a ha => done_ hr (h a ha)
theorem noPanic (d : Option Tmp) (v : Value) : ∀ c a w, GQ P f R k (.panic c) (a.put d v) w → GQ P f R k (.panic c) a w := fun _ _ _ h => h.elim
/-- Taken first: it yields v wherever S holds. -/
theorem DR.take (i : Nat) (l' : Array Bool) (hi : ops[i]? = some ⟨some d, op, ty, pos, aft, none⟩) (hc : takeB .any ops ds l l' i = true) (hy : Yl P S n e ⟨some d, op, ty, pos, aft, none⟩ v) (hd : Nat.blt d n = true) (hS : S w)
    (h : DR P f n R S ds ops fuel l' k ((d, v) :: e) w) : DR P f n R S ds ops (fuel + 1) l k e w :=
  fun a ha => take_ l' hi rfl hc (noPanic _ _) (.inl ⟨rfl, fun w hw => hy a w ha hw⟩) hS rfl (h _ (ha.put (by simpa using hd) v))
/-- Taken first: it yields v whatever the world. -/
theorem DR.pure (i : Nat) (l' : Array Bool) (hi : ops[i]? = some ⟨some d, op, ty, pos, aft, none⟩) (hc : anyB .any ops l l' i = true) (hy : Yl P (fun _ => True) n e ⟨some d, op, ty, pos, aft, none⟩ v) (hd : Nat.blt d n = true)
    (h : DR P f n R S ds ops fuel l' k ((d, v) :: e) w) : DR P f n R S ds ops (fuel + 1) l k e w :=
  fun a ha => pure_ l' hi rfl hc (noPanic _ _) (.inl ⟨rfl, fun w => hy a w ha trivial⟩) rfl (h _ (ha.put (by simpa using hd) v))
theorem guard_val (ha : Fits n e a) {j dj : Nat} {r : Bool} (hj : (ops[j]?).bind (·.dst) = some dj) (hjn : Nat.blt dj n = true) (hv : e.get dj = some (.bool r)) : yielded ops a.tmps j = some r := by
  have h1 := ha.get dj _ hv
  have hlt : dj < a.tmps.size := by rw [ha.sz]; simpa using hjn
  simp only [Array.getD_eq_getD_getElem?, Array.getElem?_eq_getElem hlt, Option.getD_some] at h1
  simp [yielded, hj, Array.getElem?_eq_getElem hlt, h1]
/-- The same of one whose guard is met. -/
theorem DR.takeG (i : Nat) (l' : Array Bool) {j dj : Nat} {r : Bool} (hi : ops[i]? = some ⟨some d, op, ty, pos, aft, some (j, r)⟩) (hj : (ops[j]?).bind (·.dst) = some dj) (hjn : Nat.blt dj n = true) (hv : e.get dj = some (.bool r)) (hc : takeB .any ops ds l l' i = true) (hy : Yl P S n e ⟨some d, op, ty, pos, aft, some (j, r)⟩ v) (hd : Nat.blt d n = true) (hS : S w)
    (h : DR P f n R S ds ops fuel l' k ((d, v) :: e) w) : DR P f n R S ds ops (fuel + 1) l k e w :=
  fun a ha => take_ l' hi rfl hc (noPanic _ _) (.inl ⟨by simp [Region.wanted, guard_val ha hj hjn hv], fun w hw => hy a w ha hw⟩) hS rfl (h _ (ha.put (by simpa using hd) v))
theorem DR.pureG (i : Nat) (l' : Array Bool) {j dj : Nat} {r : Bool} (hi : ops[i]? = some ⟨some d, op, ty, pos, aft, some (j, r)⟩) (hj : (ops[j]?).bind (·.dst) = some dj) (hjn : Nat.blt dj n = true) (hv : e.get dj = some (.bool r)) (hc : anyB .any ops l l' i = true) (hy : Yl P (fun _ => True) n e ⟨some d, op, ty, pos, aft, some (j, r)⟩ v) (hd : Nat.blt d n = true)
    (h : DR P f n R S ds ops fuel l' k ((d, v) :: e) w) : DR P f n R S ds ops (fuel + 1) l k e w :=
  fun a ha => pure_ l' hi rfl hc (noPanic _ _) (.inl ⟨by simp [Region.wanted, guard_val ha hj hjn hv], fun w => hy a w ha trivial⟩) rfl (h _ (ha.put (by simpa using hd) v))
/-- One whose guard is not met. -/
theorem DR.not (i : Nat) (l' : Array Bool) {j dj : Nat} {r r' : Bool} (hi : ops[i]? = some ⟨some d, op, ty, pos, aft, some (j, r)⟩) (hj : (ops[j]?).bind (·.dst) = some dj) (hjn : Nat.blt dj n = true) (hv : e.get dj = some (.bool r')) (hr : (r' == r) = false) (hc : anyB .any ops l l' i = true) (hd : Nat.blt d n = true)
    (h : DR P f n R S ds ops fuel l' k ((d, undef) :: e) w) : DR P f n R S ds ops (fuel + 1) l k e w :=
  fun a ha => pure_ l' hi rfl hc (noPanic _ _) (.inr ⟨by
    have h1 : (some r' == some r) = false := by simpa using hr
    simp only [Region.wanted, guard_val ha hj hjn hv, h1], rfl⟩) rfl (h _ (ha.put (by simpa using hd) undef))
theorem want_if {oi : Oper} {N : Option Tmp} {K : Act → World → Prop} {Q : Exit → Act → World → Prop} (hw : Region.wanted oi (yielded ops a.tmps) = true) (h : oi.wp P a w K Q) :
    if Region.wanted oi (yielded ops a.tmps) = true then Oper.wp P oi a w K Q else K (a.put N undef) w := by rw [if_pos hw]; exact h
/-- The only one that may come up: a call. -/
theorem DR.callC {g : Nat} {xs : List Operand} {vs cap : List Value} {ats : Array TypeId} (i : Nat) (l' : Array Bool) (Φ : Value → World → Prop) (hi : ops[i]? = some ⟨some d, .call { callee := .value x, args := xs.toArray, argTypes := ats }, ty, pos, aft, none⟩)
    (hc : readyB .any ops l l' i = true) (hds : (ds.contains i) = false) (hf : opv e x = some (.func (.func g) #[] cap.toArray)) (hcl : CI P g) (hx : opvs e xs = some vs) (hd : Nat.blt d n = true)
    (h : Calls P g (vs ++ cap).toArray w fun e w' => ∃ v, e = .returned v ∧ Φ v w') (hS : ∀ v w', Φ v w' → S w') (hk : ∀ v w', Φ v w' → S w' → DR P f n R S ds ops fuel l' k ((d, v) :: e) w') : DR P f n R S ds ops (fuel + 1) l k e w := by
  intro a ha
  refine one_ l' hi rfl hc (by simpa using hds) fun K hK => want_if rfl ?_
  have hr := run_call (P := P) (ty := ty) (pos := pos) (aft := aft) (dst := some d) (gd := none) (ats := ats) ha hf hx hcl.run w
  unfold Oper.wp
  rw [hr, Oper.upon_enter]
  have h' : Calls P g (vs.toArray ++ cap.toArray) w fun e w' => ∃ v, e = .returned v ∧ Φ v w' := by simpa using h
  refine h'.mono fun en w' he => ?_
  obtain ⟨v, rfl, hv⟩ := he
  exact hK.out _ _ (hS v w' hv) fun hS' => hk v w' hv hS' _ (ha.put (by simpa using hd) v)
theorem DR.call {g : Nat} {xs : List Operand} {vs : List Value} {ats : Array TypeId} [hcl : CI P g] (i : Nat) (l' : Array Bool) (Φ : Value → World → Prop) (hi : ops[i]? = some ⟨some d, .call { callee := .value (.func g), args := xs.toArray, argTypes := ats }, ty, pos, aft, none⟩)
    (hc : readyB .any ops l l' i = true) (hds : (ds.contains i) = false) (hx : opvs e xs = some vs) (hd : Nat.blt d n = true)
    (h : Calls P g vs.toArray w fun e w' => ∃ v, e = .returned v ∧ Φ v w') (hS : ∀ v w', Φ v w' → S w') (hk : ∀ v w', Φ v w' → S w' → DR P f n R S ds ops fuel l' k ((d, v) :: e) w') : DR P f n R S ds ops (fuel + 1) l k e w :=
  DR.callC (cap := []) i l' Φ hi hc hds rfl hcl hx hd (by simpa using h) hS hk
/-- .. a call that computes v. -/
theorem DR.callq {g : Nat} {xs : List Operand} {vs : List Value} {ats : Array TypeId} [hcl : CI P g] (i : Nat) (l' : Array Bool) (hi : ops[i]? = some ⟨some d, .call { callee := .value (.func g), args := xs.toArray, argTypes := ats }, ty, pos, aft, none⟩)
    (hc : readyB .any ops l l' i = true) (hds : (ds.contains i) = false) (hx : opvs e xs = some vs) (hd : Nat.blt d n = true)
    (h : Calls P g vs.toArray w fun e w' => e = .returned v ∧ Ext No w w') (hS : ∀ w', Ext No w w' → S w') (hk : ∀ w', Ext No w w' → S w' → DR P f n R S ds ops fuel l' k ((d, v) :: e) w') : DR P f n R S ds ops (fuel + 1) l k e w :=
  DR.call (g := g) i l' (fun u w' => u = v ∧ Ext No w w') hi hc hds hx hd (h.mono fun en w' he => ⟨v, he.1, rfl, he.2⟩) (fun u w' hu => hS w' hu.2) (fun u w' hu hS' => by rw [hu.1]; exact hk w' hu.2 hS')
theorem DR.callqC {g : Nat} {xs : List Operand} {vs cap : List Value} {ats : Array TypeId} (i : Nat) (l' : Array Bool) (hi : ops[i]? = some ⟨some d, .call { callee := .value x, args := xs.toArray, argTypes := ats }, ty, pos, aft, none⟩)
    (hc : readyB .any ops l l' i = true) (hds : (ds.contains i) = false) (hf : opv e x = some (.func (.func g) #[] cap.toArray)) (hcl : CI P g) (hx : opvs e xs = some vs) (hd : Nat.blt d n = true)
    (h : Calls P g (vs ++ cap).toArray w fun e w' => e = .returned v ∧ Ext No w w') (hS : ∀ w', Ext No w w' → S w') (hk : ∀ w', Ext No w w' → S w' → DR P f n R S ds ops fuel l' k ((d, v) :: e) w') : DR P f n R S ds ops (fuel + 1) l k e w :=
  DR.callC i l' (fun u w' => u = v ∧ Ext No w w') hi hc hds hf hcl hx hd (h.mono fun en w' he => ⟨v, he.1, rfl, he.2⟩) (fun u w' hu => hS w' hu.2) (fun u w' hu hS' => by rw [hu.1]; exact hk w' hu.2 hS')
/-- A call whose guard is met. -/
theorem DR.callqCG {g : Nat} {xs : List Operand} {vs cap : List Value} {ats : Array TypeId} (i : Nat) (l' : Array Bool) {j dj : Nat} {r : Bool} (hi : ops[i]? = some ⟨some d, .call { callee := .value x, args := xs.toArray, argTypes := ats }, ty, pos, aft, some (j, r)⟩)
    (hj : (ops[j]?).bind (·.dst) = some dj) (hjn : Nat.blt dj n = true) (hgv : e.get dj = some (.bool r))
    (hc : readyB .any ops l l' i = true) (hds : (ds.contains i) = false) (hf : opv e x = some (.func (.func g) #[] cap.toArray)) (hcl : CI P g) (hx : opvs e xs = some vs) (hd : Nat.blt d n = true)
    (h : Calls P g (vs ++ cap).toArray w fun e w' => e = .returned v ∧ Ext No w w') (hS : ∀ w', Ext No w w' → S w') (hk : ∀ w', Ext No w w' → S w' → DR P f n R S ds ops fuel l' k ((d, v) :: e) w') : DR P f n R S ds ops (fuel + 1) l k e w := by
  intro a ha
  refine one_ l' hi rfl hc (by simpa using hds) fun K hK => want_if (by simp [Region.wanted, guard_val ha hj hjn hgv]) ?_
  have hr := run_call (P := P) (ty := ty) (pos := pos) (aft := aft) (dst := some d) (gd := some (j, r)) (ats := ats) ha hf hx hcl.run w
  unfold Oper.wp
  rw [hr, Oper.upon_enter]
  have h' : Calls P g (vs.toArray ++ cap.toArray) w fun e w' => e = .returned v ∧ Ext No w w' := by simpa using h
  refine h'.mono fun en w' he => ?_
  obtain ⟨rfl, hv⟩ := he
  exact hK.out _ _ (hS w' hv) fun hS' => hk w' hv hS' _ (ha.put (by simpa using hd) v)
/-- The only one that may come up, whatever it does. -/
theorem DR.one (i : Nat) (l' : Array Bool) (w' : World) (hi : ops[i]? = some ⟨some d, op, ty, pos, aft, none⟩) (hc : readyB .any ops l l' i = true) (hds : (ds.contains i) = false) (hr : ∀ a, Fits n e a → (execOp a.eval ⟨some d, op, ty, pos, aft, none⟩).run P w = .ok (.value v) w') (hd : Nat.blt d n = true) (hS : S w')
    (hk : DR P f n R S ds ops fuel l' k ((d, v) :: e) w') : DR P f n R S ds ops (fuel + 1) l k e w := by
  intro a ha
  refine one_ l' hi rfl hc (by simpa using hds) fun K hK => want_if rfl ?_
  unfold Oper.wp
  rw [hr a ha]
  exact hK.out _ _ hS fun _ => hk _ (ha.put (by simpa using hd) v)
/-- .. one of ds. -/
theorem DR.oneL (i : Nat) (l' : Array Bool) (w' : World) (hi : ops[i]? = some ⟨some d, op, ty, pos, aft, none⟩) (hc : readyB .any ops l l' i = true) (hds : (ds.contains i) = true) (hr : ∀ a, Fits n e a → (execOp a.eval ⟨some d, op, ty, pos, aft, none⟩).run P w = .ok (.value v) w') (hd : Nat.blt d n = true)
    (hk : DR P f n R S ds ops fuel l' k ((d, v) :: e) w') : DR P f n R S ds ops (fuel + 1) l k e w := by
  intro a ha
  refine last_ l' hi rfl hc (by simpa using hds) fun K hK => want_if rfl ?_
  unfold Oper.wp
  rw [hr a ha]
  exact hK.out _ _ (hk _ (ha.put (by simpa using hd) v))
/-- A store of ds. -/
theorem DR.st (i : Nat) (l' : Array Bool) (w' : World) (hi : ops[i]? = some ⟨none, op, ty, pos, aft, none⟩) (hc : readyB .any ops l l' i = true) (hds : (ds.contains i) = true) (hr : ∀ a, Fits n e a → (execOp a.eval ⟨none, op, ty, pos, aft, none⟩).run P w = .ok .skip w')
    (hk : DR P f n R S ds ops fuel l' k e w') : DR P f n R S ds ops (fuel + 1) l k e w := by
  intro a ha
  refine last_ l' hi rfl hc (by simpa using hds) fun K hK => want_if rfl ?_
  unfold Oper.wp
  rw [hr a ha]
  exact hK.out _ _ (hk _ ha)
/-- A store into a known block. -/
theorem DR.store (i : Nat) (l' : Array Bool) (hi : ops[i]? = some ⟨none, .store t x y, ty, pos, aft, none⟩) (hc : readyB .any ops l l' i = true) (hds : (ds.contains i) = true) (hw : C w) (hst : Stores P n e C C' ⟨none, .store t x y, ty, pos, aft, none⟩)
    (hk : ∀ w', C' w' → DR P f n R S ds ops fuel l' k e w') : DR P f n R S ds ops (fuel + 1) l k e w := by
  intro a ha
  obtain ⟨w', hr, hC⟩ := hst a w ha hw
  refine last_ l' hi rfl hc (by simpa using hds) fun K hK => want_if rfl ?_
  unfold Oper.wp
  rw [hr]
  exact hK.out _ _ (hk w' hC _ ha)
/-- A new block. -/
theorem DR.alloc {ag : Bool} {s : Nat} {zv : Value} (i : Nat) (l' : Array Bool) (hi : ops[i]? = some ⟨some d, .alloc t, ty, pos, aft, none⟩) (hc : readyB .any ops l l' i = true) (hds : (ds.contains i) = false) (ht : TI P t ag s zv) (hz : zv.cells = cs.toArray) (hd : Nat.blt d n = true) (hw : Cls w0 D H w) (hS : ∀ w', Ext No w w' → S w')
    (hk : ∀ b w', Cls w0 D (⟨b, cs, t⟩ :: H) w' → S w' → DR P f n R S ds ops fuel l' k ((d, .pointer (some ⟨b, 0, none⟩)) :: e) w') : DR P f n R S ds ops (fuel + 1) l k e w :=
  DR.one i l' (w.alloc (.cells cs.toArray t)) hi hc hds (fun a _ => by simp [execOp, Instr.alloc, newVar, newRow, ht.zero, hz]) hd (hS _ (.alloc _ _)) (hk _ _ (hw.alloc cs t) (hS _ (.alloc _ _)))
theorem DR.box (i : Nat) (l' : Array Bool) (hi : ops[i]? = some ⟨some d, .box t x, ty, pos, aft, none⟩) (hc : readyB .any ops l l' i = true) (hds : (ds.contains i) = false) (hx : opv e x = some v) (hz : v.cells = cs.toArray) (hd : Nat.blt d n = true) (hw : Cls w0 D H w) (hS : ∀ w', Ext No w w' → S w')
    (hk : ∀ b w', Cls w0 D (⟨b, cs, t⟩ :: H) w' → S w' → DR P f n R S ds ops fuel l' k ((d, .pointer (some ⟨b, 0, none⟩)) :: e) w') : DR P f n R S ds ops (fuel + 1) l k e w :=
  DR.one i l' (w.alloc (.cells cs.toArray t)) hi hc hds (fun a ha => by simp [execOp, Instr.box, newVar, newRow, ha.eval hx, hz]) hd (hS _ (.alloc _ _)) (hk _ _ (hw.alloc cs t) (hS _ (.alloc _ _)))
end
end Go.Proofs.Ytmkpbbdocndfbaa
/- The engine: how a call begins and ends (own work). -/
namespace Go.Proofs.Ytmkpbbdocndfbaa
open Go.RowKit

section
variable {P : Program} {f n : Nat} {R : Ending → World → Prop} {k : List Item} {e e' : Env} {w w' w0 : World} {a : Act} {C C' S : World → Prop} {D : Nat → Prop} {H H' : List Blk}
variable {fn : Func} {c : Code} {v v0 v1 v2 v3 v4 v5 v6 : Value} {t : TypeId} {b : Nat} {cs l : List Value}

theorem Calls.of_G0 (hf : P.funcs[f]? = some fn) (hb : fn.body = some c) (hn : fn.ntmps = n) (h : G P f n R [.code c] [] w) : Calls P f #[] w R := Calls.of_G hf hb hn rfl (Nat.zero_le _) h
theorem Calls.of_G1 (hf : P.funcs[f]? = some fn) (hb : fn.body = some c) (hn : fn.ntmps = n) (hm : Nat.ble 1 n = true) (h : G P f n R [.code c] [(0, v0)] w) : Calls P f #[v0] w R := Calls.of_G hf hb hn rfl (by simpa using hm) h
theorem Calls.of_G2 (hf : P.funcs[f]? = some fn) (hb : fn.body = some c) (hn : fn.ntmps = n) (hm : Nat.ble 2 n = true) (h : G P f n R [.code c] [(0, v0), (1, v1)] w) : Calls P f #[v0, v1] w R := Calls.of_G hf hb hn rfl (by simpa using hm) h
theorem Calls.of_G3 (hf : P.funcs[f]? = some fn) (hb : fn.body = some c) (hn : fn.ntmps = n) (hm : Nat.ble 3 n = true) (h : G P f n R [.code c] [(0, v0), (1, v1), (2, v2)] w) : Calls P f #[v0, v1, v2] w R := Calls.of_G hf hb hn rfl (by simpa using hm) h
theorem Calls.of_G4 (hf : P.funcs[f]? = some fn) (hb : fn.body = some c) (hn : fn.ntmps = n) (hm : Nat.ble 4 n = true) (h : G P f n R [.code c] [(0, v0), (1, v1), (2, v2), (3, v3)] w) : Calls P f #[v0, v1, v2, v3] w R := Calls.of_G hf hb hn rfl (by simpa using hm) h
theorem Calls.of_G5 (hf : P.funcs[f]? = some fn) (hb : fn.body = some c) (hn : fn.ntmps = n) (hm : Nat.ble 5 n = true) (h : G P f n R [.code c] [(0, v0), (1, v1), (2, v2), (3, v3), (4, v4)] w) : Calls P f #[v0, v1, v2, v3, v4] w R := Calls.of_G hf hb hn rfl (by simpa using hm) h
theorem Calls.of_G6 (hf : P.funcs[f]? = some fn) (hb : fn.body = some c) (hn : fn.ntmps = n) (hm : Nat.ble 6 n = true) (h : G P f n R [.code c] [(0, v0), (1, v1), (2, v2), (3, v3), (4, v4), (5, v5)] w) : Calls P f #[v0, v1, v2, v3, v4, v5] w R := Calls.of_G hf hb hn rfl (by simpa using hm) h

theorem J.intro (h : ∀ w, C w → G P f n R k e w) : J P f n R C k e := h
theorem JL.intro {ops : Array Oper} {l : List Oper} (h : ∀ w, C w → GL P f n R ops l k e w) : JL P f n R C ops l k e := h
theorem G.of_J (hw : C w) (h : J P f n R C k e) : G P f n R k e w := h w hw
theorem GL.of_JL {ops : Array Oper} {l : List Oper} (hw : C w) (h : JL P f n R C ops l k e) : GL P f n R ops l k e w := h w hw
/-- What a result's slot holds. -/
def RV (P : Program) (C : World → Prop) (e : Env) : ResultVar → Value → Prop
  | .tmp t, v => e.get t = some v
  | .cell x t, v => ∃ p, e.get x = some (.pointer (some p)) ∧ ∀ w, C w → Lds P t p v w
/-- One result. -/
def resS (tmps : Array Value) : ResultVar → Sem Value
  | .tmp t => pure (tmps.getD t undef)
  | .cell x t => do loadVar t (← asAddr (tmps.getD x undef))
theorem results_def (fn : Func) (tmps : Array Value) : results fn tmps = (do
  let vs ← fn.results.mapM (resS tmps)
  pure (if h : vs.size = 1 then vs[0] else .tuple vs)) := rfl
theorem RV.run {r : ResultVar} (h : RV P C e r v) (ha : Fits n e a) (hw : C w) : (resS a.tmps r).run P w = .ok v w := by
  cases r with
  | tmp t => have := ha.get t v h; simp only [resS, this]; rfl
  | cell x t =>
    obtain ⟨p, hp, hl⟩ := h
    have h1 := ha.get x _ hp
    have h2 := hl w hw
    unfold Lds at h2
    simp only [resS, h1, asAddr, Sem.run_bind, Sem.run_pure, Result.andThen_ok, h2]
theorem RV.tm {i : Nat} (h : e.get i = some v) : RV P C e (.tmp i) v := h
theorem RV.ce {i : Nat} {p : Addr} (h : e.get i = some (.pointer (some p))) (hl : ∀ w, C w → Lds P t p v w) : RV P C e (.cell i t) v := ⟨p, h, hl⟩
theorem RV.W {i s : Nat} {zv : Value} [ht : TI P t true s zv] {bt : TypeId} (j : Nat) (hx : e.get i = some (.pointer (some ⟨b, 0, none⟩))) (hH : H[j]? = some ⟨b, cs, bt⟩) (hl : cs.length = s) : RV P (Cls w0 D H) e (.cell i t) (.agg cs.toArray) :=
  ⟨_, hx, fun w hw => Lds.many (hw.has _ (List.mem_of_getElem? hH)) (by simp [← hl]) hl⟩

theorem res0 (hr : fn.results = #[]) (tmps : Array Value) (w : World) : (results fn tmps).run P w = .ok (.tuple #[]) w := by simp [results, hr]
theorem J.ret0 (hf : P.funcs[f]? = some fn) (hr : fn.results = #[]) (hR : ∀ w, C w → R (.returned (.tuple #[])) w) : J P f n R C (.code .ret :: k) e := fun w hw => .ret hf (fun a _ => res0 hr a.tmps w) (hR w hw)
theorem J.end0 (hf : P.funcs[f]? = some fn) (hr : fn.results = #[]) (hR : ∀ w, C w → R (.returned (.tuple #[])) w) : J P f n R C [] e := fun w hw => .end_ hf (fun a _ => res0 hr a.tmps w) (hR w hw)
theorem J.ret1 {r : ResultVar} (hf : P.funcs[f]? = some fn) (hr : fn.results = #[r]) (h0 : RV P C e r v) (hR : ∀ w, C w → R (.returned v) w) : J P f n R C (.code .ret :: k) e :=
  fun w hw => .ret hf (fun a ha => by
    rw [results_def, hr]
    simp [h0.run ha hw]) (hR w hw)
theorem J.ret2 {r0 r1 : ResultVar} (hf : P.funcs[f]? = some fn) (hr : fn.results = #[r0, r1]) (h0 : RV P C e r0 v0) (h1 : RV P C e r1 v1) (hR : ∀ w, C w → R (.returned (.tuple #[v0, v1])) w) : J P f n R C (.code .ret :: k) e :=
  fun w hw => .ret hf (fun a ha => by
    rw [results_def, hr]
    simp [h0.run ha hw, h1.run ha hw]) (hR w hw)
theorem J.ret3 {r0 r1 r2 : ResultVar} (hf : P.funcs[f]? = some fn) (hr : fn.results = #[r0, r1, r2]) (h0 : RV P C e r0 v0) (h1 : RV P C e r1 v1) (h2 : RV P C e r2 v2) (hR : ∀ w, C w → R (.returned (.tuple #[v0, v1, v2])) w) : J P f n R C (.code .ret :: k) e :=
  fun w hw => .ret hf (fun a ha => by
    rw [results_def, hr]
    simp [h0.run ha hw, h1.run ha hw, h2.run ha hw]) (hR w hw)
theorem J.ret4 {r0 r1 r2 r3 : ResultVar} (hf : P.funcs[f]? = some fn) (hr : fn.results = #[r0, r1, r2, r3]) (h0 : RV P C e r0 v0) (h1 : RV P C e r1 v1) (h2 : RV P C e r2 v2) (h3 : RV P C e r3 v3) (hR : ∀ w, C w → R (.returned (.tuple #[v0, v1, v2, v3])) w) : J P f n R C (.code .ret :: k) e :=
  fun w hw => .ret hf (fun a ha => by
    rw [results_def, hr]
    simp [h0.run ha hw, h1.run ha hw, h2.run ha hw, h3.run ha hw]) (hR w hw)
end
end Go.Proofs.Ytmkpbbdocndfbaa
/- Lists in memory: rows that are read, rows of one's own (own work). -/
namespace Go.Proofs.Ytmkpbbdocndfbaa
open Go.RowKit

open Go.Proofs.YtmkpbbdocndfbaaW.PrintLast in
/-- A store of one element of a row of one's own, the last but what waits for it. -/
theorem DR.rowStore {P : Program} {f n : Nat} {R : Ending → World → Prop} {k : List Item} {e : Env} {w : World} {S : World → Prop} {ds : List Nat} {ops : Array Oper} {ty t : TypeId} {pos : String} {aft : Array Edge} {fuel : Nat} {x y : Operand} {l : Array Bool} (i : Nat) (l' : Array Bool) (hi : ops[i]? = some ⟨none, .store t x y, ty, pos, aft, none⟩) (hc : readyB .any ops l l' i = true) (hds : (ds.contains i) = true) {A : Addr} {q : Nat} {u : Value} (Q : World → Prop) (hx : opv e x = some (.pointer (some (A.add q)))) (hy : opv e y = some u)
    (hst : ∃ w', (storeVar t (A.add q) u).run P w = .ok () w' ∧ Q w') (hk : ∀ w', Q w' → DR P f n R S ds ops fuel l' k e w') : DR P f n R S ds ops (fuel + 1) l k e w := by
  obtain ⟨w', hr, hQ⟩ := hst
  exact DR.st i l' w' hi hc hds (fun a ha => by simp [execOp, Instr.storeAt, Instr.sureAddr, ha.eval hx, ha.eval hy, hr]) (hk w' hQ)

class AI (P : Program) (t : TypeId) (e : outParam TypeId) (z : outParam Value) (size bytes : outParam Nat) : Prop where
  und : P.underlying t = some (.slice e)
  info : (P.info? e).map (fun i => (i.zero, i.size, i.bytes)) = some (some z, size, bytes)
  zs : z.cells.size = size
theorem info_of {P : Program} {e : TypeId} {z : Value} {size bytes : Nat} (h : (P.info? e).map (fun i => (i.zero, i.size, i.bytes)) = some (some z, size, bytes)) : ∃ i, P.info? e = some i ∧ i.zero = some z ∧ i.size = size ∧ i.bytes = bytes := by
  cases hi : P.info? e with
  | none => simp [hi] at h
  | some i => simp [hi] at h; exact ⟨i, rfl, h.1, h.2.1, h.2.2⟩

theorem add_add (a : Addr) (m j : Nat) : (a.add m).add j = a.add (m + j) := by
  unfold Addr.add
  by_cases hm : m = 0
  · subst hm; simp
  · by_cases hj : j = 0
    · subst hj; simp
    · simp [hm, hj, Nat.add_assoc]

section
variable {α β : Type} {w w1 w' : World} {D ok ok' : Nat → Prop} {v v' : Value} {e sz : Nat} {chs : List (List Value)}

/-! ### A row of one's own -/
def Row (w : World) (e sz : Nat) (v : Value) (chs : List (List Value)) : Prop := (∀ ch ∈ chs, ch.length = sz) ∧ w.ownsRow 0 e sz v chs.length chs.flatten
theorem Row.nil (w : World) (e sz : Nat) : Row w e sz (.slice none 0 0) [] := ⟨by simp, by simp, .inl ⟨rfl, rfl⟩⟩
theorem Row.lt (h : Row w e sz v chs) {g : Nat} (hg : v.ownBlock = some g) : g < w.heap.size := (h.2.lt g hg).2
theorem Row.foot (h : Row w e sz v chs) : Foot (fun w => Row w e sz v chs) w (fun k => v.ownBlock = some k) := by
  intro w' hw
  refine ⟨h.1, h.2.1, ?_⟩
  rcases h.2.2 with hn | ⟨g, cap, cur, rfl, hb, hgg, rest⟩
  · exact .inl hn
  · refine .inr ⟨g, cap, cur, rfl, hb, ?_, rest⟩
    rw [hw g (by simp [Value.ownBlock]) (Array.getElem?_eq_some_iff.1 hgg).1]
    exact hgg
theorem Row.ext (h : Row w e sz v chs) (he : Ext D w w1) (hd : ∀ g, v.ownBlock = some g → ¬ D g) : Row w1 e sz v chs := h.foot.at_ he fun k _ hk => hd k hk
theorem Row.ext0 (h : Row w e sz v chs) (he : Ext No w w1) : Row w1 e sz v chs := h.ext he fun _ _ h => h
theorem Row.slice (h : Row w e sz v chs) : ∃ A c, v = .slice A chs.length c ∧ chs.length ≤ c ∧ c ≤ maxLen := by
  rcases h.2.2 with ⟨rfl, hn⟩ | ⟨g, cap, cur, rfl, _, _, h1, h2, _⟩
  · exact ⟨none, 0, by rw [hn], by omega, by simp [maxLen]⟩
  · exact ⟨_, _, rfl, h1, h2⟩
theorem Row.len (h : Row w e sz v chs) : chs.length ≤ maxLen := by
  obtain ⟨A, c, _, h1, h2⟩ := h.slice; omega
/-- The chunk at i. -/
theorem flatten_at : ∀ (chs : List (List Value)) (sz : Nat), (∀ ch ∈ chs, ch.length = sz) → ∀ (i j : Nat) (ch : List Value) (u : Value), chs[i]? = some ch → ch[j]? = some u → chs.flatten[i * sz + j]? = some u
  | [], _, _, i, j, ch, u, h, _ => by simp at h
  | c :: r, sz, hs, 0, j, ch, u, h, hu => by
    simp at h; subst h
    simp only [List.flatten_cons, Nat.zero_mul, Nat.zero_add]
    rw [List.getElem?_append_left (List.getElem?_eq_some_iff.1 hu).1]; exact hu
  | c :: r, sz, hs, i + 1, j, ch, u, h, hu => by
    simp only [List.getElem?_cons_succ] at h
    have h1 := flatten_at r sz (fun x hx => hs x (.tail _ hx)) i j ch u h hu
    have hc : c.length = sz := hs c (.head _)
    simp only [List.flatten_cons]
    rw [List.getElem?_append_right (by rw [hc, Nat.add_mul]; omega), hc, show (i + 1) * sz + j - sz = i * sz + j by rw [Nat.add_mul]; omega]
    exact h1
theorem flatten_len : ∀ (chs : List (List Value)) (sz : Nat), (∀ ch ∈ chs, ch.length = sz) → chs.flatten.length = chs.length * sz
  | [], _, _ => by simp
  | c :: r, sz, hs => by
    simp only [List.flatten_cons, List.length_append, List.length_cons]
    rw [flatten_len r sz (fun x hx => hs x (.tail _ hx)), hs c (.head _), Nat.add_mul]; omega
theorem flatten_take : ∀ (chs : List (List Value)) (sz i : Nat), (∀ ch ∈ chs, ch.length = sz) → chs.flatten.take (i * sz) = (chs.take i).flatten
  | [], _, _, _ => by simp
  | c :: r, sz, 0, hs => by simp
  | c :: r, sz, i + 1, hs => by
    have hc : c.length = sz := hs c (.head _)
    simp only [List.flatten_cons, List.take_succ_cons]
    rw [List.take_append, hc, List.take_of_length_le (by rw [hc, Nat.add_mul]; omega), show (i + 1) * sz - sz = i * sz by rw [Nat.add_mul]; omega, flatten_take r sz i (fun x hx => hs x (.tail _ hx))]
theorem flatten_drop : ∀ (chs : List (List Value)) (sz i : Nat), (∀ ch ∈ chs, ch.length = sz) → chs.flatten.drop (i * sz) = (chs.drop i).flatten
  | [], _, _, _ => by simp
  | c :: r, sz, 0, hs => by simp
  | c :: r, sz, i + 1, hs => by
    have hc : c.length = sz := hs c (.head _)
    simp only [List.flatten_cons, List.drop_succ_cons]
    rw [List.drop_append, hc, List.drop_eq_nil_of_le (by rw [hc, Nat.add_mul]; omega), show (i + 1) * sz - sz = i * sz by rw [Nat.add_mul]; omega, flatten_drop r sz i (fun x hx => hs x (.tail _ hx))]; simp
/-- Where the row lies, if it has an element. -/
theorem Row.block (h : Row w e sz v chs) (hn : 0 < chs.length) : ∃ g cap cur, v = .slice (some ⟨g, 0, none⟩) chs.length cap ∧ w.heap[g]? = some (.cells cur e (0, 0)) ∧ chs.length ≤ cap ∧ cap ≤ maxLen ∧ cur.size = cap * sz ∧ cur.toList.take (chs.length * sz) = chs.flatten := by
  rcases h.2.2 with ⟨_, hn'⟩ | ⟨g, cap, cur, rfl, _, hgg, rest⟩
  · omega
  · exact ⟨g, cap, cur, rfl, hgg, rest⟩
theorem Row.cell (h : Row w e sz v chs) {i j : Nat} {ch : List Value} {u : Value} (hi : chs[i]? = some ch) (hj : ch[j]? = some u) :
    ∃ g cap, v = .slice (some ⟨g, 0, none⟩) chs.length cap ∧ w.cell? ⟨g, i * sz + j, none⟩ = some u := by
  have hn : 0 < chs.length := by have := (List.getElem?_eq_some_iff.1 hi).1; omega
  obtain ⟨g, cap, cur, rfl, hb, _, _, _, ht⟩ := h.block hn
  refine ⟨g, cap, rfl, ?_⟩
  have h1 := flatten_at chs sz h.1 i j ch u hi hj
  rw [← ht, List.getElem?_take] at h1
  split at h1
  · rw [cell_of_row w g _ cur e (0, 0) hb]; simpa using h1
  · cases h1
/-- Some elements from the begin. -/
theorem Row.take (h : Row w e sz v chs) {A : Option Addr} {m c : Nat} (hv : v = .slice A m c) {i : Nat} (hi : i ≤ chs.length) : Row w e sz (.slice A i c) (chs.take i) := by
  subst hv
  refine ⟨fun ch hc => h.1 ch (List.mem_of_mem_take hc), ?_, ?_⟩
  · rw [← flatten_take chs sz i h.1, List.length_take, h.2.1, List.length_take]
    rw [Nat.min_eq_left hi, Nat.min_eq_left (Nat.mul_le_mul_right _ hi)]
  · rcases h.2.2 with ⟨hv, hn⟩ | ⟨g, cap, cur, hv, hb, hgg, h1, h2, h3, h4⟩
    · cases hv
      have : i = 0 := by omega
      subst this
      exact .inl ⟨rfl, by simp⟩
    · cases hv
      refine .inr ⟨g, c, cur, by rw [List.length_take, Nat.min_eq_left hi], hb, hgg, by rw [List.length_take]; omega, h2, h3, ?_⟩
      rw [List.length_take, Nat.min_eq_left hi, ← flatten_take chs sz i h.1, ← h4, List.take_take, Nat.min_eq_left (Nat.mul_le_mul_right _ hi)]

/-- A store of element i. -/
theorem set_flat (chs : List (List Value)) (sz i : Nat) (hs : ∀ ch ∈ chs, ch.length = sz) (l : List Value) (_ : l.length = sz) (hi : i < chs.length) :
    chs.flatten.take (i * sz) ++ l ++ chs.flatten.drop (i * sz + sz) = (chs.set i l).flatten := by
  rw [flatten_take chs sz i hs, show i * sz + sz = (i + 1) * sz by rw [Nat.add_mul]; omega, flatten_drop chs sz (i + 1) hs, List.set_eq_take_append_cons_drop, if_pos hi]
  simp
theorem Row.store {P : Program} {t : TypeId} {ag : Bool} {zv : Value} [ht : TI P t ag sz zv] (h : Row w e sz v chs) {A : Addr} {m c : Nat} (hv : v = .slice (some A) m c) {i : Nat} (hi : i < chs.length) {x : Value} {l : List Value} (hx : x.cells = l.toArray) (hl : l.length = sz) (h1 : ∀ u ∈ l, u.oneCell' = true) :
    ∃ w', (storeVar t (A.add (i * sz)) x).run P w = .ok () w' ∧ Row w' e sz v (chs.set i l) ∧ Ext (fun k => k = A.block) w w' := by
  obtain ⟨g, cap, cur, hv', hb, hc1, hc2, hcs, htk⟩ := h.block (by omega)
  rw [hv] at hv'
  cases hv'
  have hmul : (i + 1) * sz ≤ c * sz := Nat.mul_le_mul_right _ (by omega)
  rw [Nat.add_mul] at hmul
  have hb' : w.heap[g]? = some (.cells cur.toList.toArray e (0, 0)) := by simpa using hb
  have hst := run_storeVar (P := P) (t := t) (v := x) (o := i * sz) hb' hx hl (by simp [hcs]; omega) h1
  rw [add_lit, Nat.zero_add]
  refine ⟨_, hst, ⟨fun ch hc => ?_, ?_, ?_⟩, Ext.setRow w g _ rfl⟩
  · rcases List.mem_or_eq_of_mem_set hc with hc | rfl
    · exact h.1 ch hc
    · exact hl
  · rw [flatten_len _ sz (fun ch hc => ?_)]
    rcases List.mem_or_eq_of_mem_set hc with hc | rfl
    · exact h.1 ch hc
    · exact hl
  · refine .inr ⟨g, c, _, by rw [hv, List.length_set], Nat.zero_le _, setRow_heap w g cur _ e _ hb, by rw [List.length_set]; exact hc1, hc2, ?_, ?_⟩
    · simp only [List.size_toArray, List.length_append, List.length_take, List.length_drop, Array.length_toList, hl, hcs]; omega
    · rw [List.length_set, ← set_flat chs sz i h.1 l hl hi, ← htk]
      have hle : i * sz + sz ≤ chs.length * sz := by have := Nat.mul_le_mul_right sz (show i + 1 ≤ chs.length by omega); rw [Nat.add_mul] at this; omega
      have hA : (cur.toList.take (i * sz) ++ l).length = i * sz + sz := by rw [List.length_append, List.length_take, Array.length_toList, hl, hcs, Nat.min_eq_left (by omega)]
      rw [List.take_take, Nat.min_eq_left (by omega), List.drop_take, List.take_append, List.take_of_length_le (by rw [hA]; exact hle), hA]

/-! ### A list that is read -/
/-- The slice v has these chunks of cells. -/
def RRow (w : World) (sz : Nat) (v : Value) (chs : List (List Value)) : Prop :=
  ∃ A c, v = .slice A chs.length c ∧ chs.length ≤ c ∧ c ≤ maxLen ∧ (∀ ch ∈ chs, ch.length = sz) ∧ ∀ (i j : Nat) ch u, chs[i]? = some ch → ch[j]? = some u → ∃ ad, A = some ad ∧ w.cell? (ad.add (i * sz + j)) = some u
theorem RRow.nil (w : World) (sz : Nat) : RRow w sz (.slice none 0 0) [] := ⟨none, 0, rfl, by simp, by simp [maxLen], by simp, by simp⟩
theorem RRow.slice (h : RRow w sz v chs) : ∃ A c, v = .slice A chs.length c ∧ chs.length ≤ c ∧ c ≤ maxLen := by
  obtain ⟨A, c, h1, h2, h3, _⟩ := h; exact ⟨A, c, h1, h2, h3⟩
theorem RRow.len (h : RRow w sz v chs) : chs.length ≤ maxLen := by
  obtain ⟨A, c, h1, h2, h3⟩ := h.slice; omega
theorem RRow.size (h : RRow w sz v chs) : ∀ ch ∈ chs, ch.length = sz := by obtain ⟨A, c, _, _, _, h4, _⟩ := h; exact h4
theorem RRow.cell {A : Option Addr} {m c : Nat} (h : RRow w sz (.slice A m c) chs) {i j : Nat} {ch : List Value} {u : Value} (hi : chs[i]? = some ch) (hj : ch[j]? = some u) : ∃ ad, A = some ad ∧ w.cell? (ad.add (i * sz + j)) = some u := by
  obtain ⟨A', c', hv, _, _, _, h5⟩ := h
  cases hv
  exact h5 i j ch u hi hj
theorem RRow.some (h : RRow w sz v chs) (hsz : 0 < sz) (hn : 0 < chs.length) : ∃ ad c, v = .slice (some ad) chs.length c := by
  obtain ⟨A, c, hv, _, _, h4, h5⟩ := h
  have h0 : chs[0]? = Option.some chs[0] := List.getElem?_eq_getElem hn
  have hl := h4 chs[0] (List.getElem_mem hn)
  obtain ⟨ad, rfl, _⟩ := h5 0 0 chs[0] _ h0 (List.getElem?_eq_getElem (by omega))
  exact ⟨ad, c, hv⟩
/-- Some elements from the begin. -/
theorem RRow.take {A : Option Addr} {m c : Nat} (h : RRow w sz (.slice A m c) chs) {i : Nat} (hi : i ≤ chs.length) : RRow w sz (.slice A i c) (chs.take i) := by
  obtain ⟨A', c', hv, h2, h3, h4, h5⟩ := h
  cases hv
  refine ⟨A, c, by rw [List.length_take, Nat.min_eq_left hi], by rw [List.length_take]; omega, h3, fun ch hc => h4 ch (List.mem_of_mem_take hc), fun i' j ch u hi' hj => ?_⟩
  rw [List.getElem?_take] at hi'
  split at hi'
  · exact h5 i' j ch u hi' hj
  · cases hi'
/-- All but some elements at the begin. -/
theorem RRow.drop {A : Option Addr} {m c : Nat} (h : RRow w sz (.slice A m c) chs) {i : Nat} (hi : i ≤ chs.length) : RRow w sz (.slice (cutA A c i sz) (m - i) (c - i)) (chs.drop i) := by
  obtain ⟨A', c', hv, h2, h3, h4, h5⟩ := h
  cases hv
  refine ⟨_, c - i, by rw [List.length_drop], by rw [List.length_drop]; omega, by omega, fun ch hc => h4 ch (List.mem_of_mem_drop hc), fun i' j ch u hi' hj => ?_⟩
  rw [List.getElem?_drop] at hi'
  obtain ⟨ad, rfl, hc⟩ := h5 _ j ch u hi' hj
  have hlt : i + i' < chs.length := (List.getElem?_eq_some_iff.1 hi').1
  refine ⟨ad.add (i * sz), ?_, ?_⟩
  · unfold cutA; rw [if_neg (by omega)]; rfl
  · rw [add_add, ← hc]; congr 2; rw [Nat.add_mul, Nat.add_assoc]
/-- The slice v reads as told; what it leads to lies in ok. -/
structure Rd (sz : Nat) (el : World → List Value → α → Prop) (w : World) (ok : Nat → Prop) (v : Value) (zs : List (List Value × α)) : Prop where
  row : Foot (fun w => RRow w sz v (zs.map (·.1))) w ok
  el : ∀ z ∈ zs, Foot (fun w => el w z.1 z.2) w ok
section
variable {el : World → List Value → α → Prop} {zs : List (List Value × α)}
theorem Rd.nil (sz : Nat) (el : World → List Value → α → Prop) (w : World) (ok : Nat → Prop) : Rd sz el w ok (.slice none 0 0) [] := ⟨Foot.pure fun w => RRow.nil w sz, by simp⟩
theorem Rd.ext (h : Rd sz el w ok v zs) (he : Ext D w w1) (hd : ∀ k, k < w.heap.size → ok k → ¬ D k) : Rd sz el w1 ok v zs := ⟨h.row.ext he hd, fun z hz => (h.el z hz).ext he hd⟩
theorem Rd.ext0 (h : Rd sz el w ok v zs) (he : Ext No w w1) : Rd sz el w1 ok v zs := h.ext he fun _ _ _ h => h
theorem Rd.mono (h : Rd sz el w ok v zs) (hk : ∀ k, k < w.heap.size → ok k → ok' k) : Rd sz el w ok' v zs := ⟨h.row.mono hk, fun z hz => (h.el z hz).mono hk⟩
theorem Rd.old (h : Rd sz el w ok v zs) (he : Ext D w w1) (hd : ∀ k, k < w.heap.size → ok k → ¬ D k) : Rd sz el w1 (fun k => ok k ∧ k < w.heap.size) v zs := ⟨h.row.old he hd, fun z hz => (h.el z hz).old he hd⟩
theorem Rd.slice (h : Rd sz el w ok v zs) : ∃ A c, v = .slice A zs.length c ∧ zs.length ≤ c ∧ c ≤ maxLen := by simpa using h.row.now.slice
theorem Rd.len (h : Rd sz el w ok v zs) : zs.length ≤ maxLen := by simpa using h.row.now.len
theorem Rd.take {A : Option Addr} {m c : Nat} (h : Rd sz el w ok (.slice A m c) zs) {i : Nat} (hi : i ≤ zs.length) : Rd sz el w ok (.slice A i c) (zs.take i) :=
  ⟨h.row.imp fun w hw => by rw [List.map_take]; exact hw.take (by simpa using hi), fun z hz => h.el z (List.mem_of_mem_take hz)⟩
theorem Rd.drop {A : Option Addr} {m c : Nat} (h : Rd sz el w ok (.slice A m c) zs) {i : Nat} (hi : i ≤ zs.length) : Rd sz el w ok (.slice (cutA A c i sz) (m - i) (c - i)) (zs.drop i) :=
  ⟨h.row.imp fun w hw => by rw [List.map_drop]; exact hw.drop (by simpa using hi), fun z hz => h.el z (List.mem_of_mem_drop hz)⟩
theorem Rd.base (h : Rd sz el w ok v zs) (hsz : 0 < sz) (hn : 0 < zs.length) : ∃ ad c, v = .slice (some ad) zs.length c := by simpa using h.row.now.some hsz (by simpa using hn)
/-- Element i, as it is loaded. -/
theorem Rd.lds {P : Program} {t : TypeId} {zv : Value} [ht : TI P t true sz zv] {ad : Addr} {m c : Nat} (h : Rd sz el w ok (.slice (some ad) m c) zs) {i : Nat} {z : List Value × α} (hi : zs[i]? = some z) : Foot (Lds P t (ad.add (i * sz)) (.agg z.1.toArray)) w ok :=
  h.row.imp fun w hw => by
    have hz : (zs.map (·.1))[i]? = Option.some z.1 := by simp [hi]
    have h1 := run_loadCells_list (P := P) (w := w) (ad.add (i * sz)) z.1 (fun j u hj => by
      rw [add_add]
      obtain ⟨ad', h2, h3⟩ := hw.cell hz hj
      cases h2; exact h3)
    rw [hw.size _ (List.mem_of_getElem? hz)] at h1
    simp [Lds, loadVar, ht.isAgg, ht.sizeOf, h1]
theorem Rd.lds1 {P : Program} {t : TypeId} {zv : Value} {s : Nat} [ht : TI P t false s zv] {ad : Addr} {m c : Nat} (h : Rd 1 el w ok (.slice (some ad) m c) zs) {i : Nat} {z : List Value × α} {u : Value} (hi : zs[i]? = some z) (hu : z.1 = [u]) : Foot (Lds P t (ad.add (i * 1)) u) w ok :=
  h.row.imp fun w hw => by
    have hz : (zs.map (·.1))[i]? = Option.some z.1 := by simp [hi]
    obtain ⟨ad', h2, h3⟩ := hw.cell (i := i) (j := 0) hz (by rw [hu]; rfl)
    cases h2
    simp only [Nat.add_zero, Nat.mul_one] at h3
    simp [Lds, loadVar, ht.isAgg, h3]
end
/-- A load of element i. -/
theorem lds_cells {P : Program} {t : TypeId} {zv : Value} [ht : TI P t true sz zv] {ad : Addr} {m : Nat} {cs : List Value} (hl : cs.length = sz) (hc : ∀ j u, cs[j]? = some u → w.cell? (ad.add (m + j)) = some u) : Lds P t (ad.add m) (.agg cs.toArray) w := by
  have h1 := run_loadCells_list (P := P) (w := w) (ad.add m) cs (fun j u hj => by rw [add_add]; exact hc j u hj)
  rw [hl] at h1
  simp [Lds, loadVar, ht.isAgg, ht.sizeOf, h1]
theorem lds_one {P : Program} {t : TypeId} {s : Nat} {zv : Value} [ht : TI P t false s zv] {ad : Addr} {u : Value} (hc : w.cell? ad = some u) : Lds P t ad u w := by
  simp [Lds, loadVar, ht.isAgg, hc]

/-! ### A list of one's own -/
/-- The row v is one's own: its elements read as told; what they lead to lies in ok, which is apart from the row. -/
structure Own (e sz : Nat) (el : World → List Value → α → Prop) (w : World) (ok : Nat → Prop) (v : Value) (zs : List (List Value × α)) : Prop where
  row : Row w e sz v (zs.map (·.1))
  el : ∀ z ∈ zs, Foot (fun w => el w z.1 z.2) w ok
  apart : ∀ k, ok k → v.ownBlock ≠ some k
section
variable {el : World → List Value → α → Prop} {zs : List (List Value × α)}
theorem Own.nil (e sz : Nat) (el : World → List Value → α → Prop) (w : World) (ok : Nat → Prop) : Own e sz el w ok (.slice none 0 0) [] := ⟨Row.nil w e sz, by simp, fun k _ h => by simp [Value.ownBlock] at h⟩
theorem Own.ext (h : Own e sz el w ok v zs) (he : Ext D w w1) (h1 : ∀ g, v.ownBlock = some g → ¬ D g) (h2 : ∀ k, k < w.heap.size → ok k → ¬ D k) : Own e sz el w1 ok v zs :=
  ⟨h.row.ext he h1, fun z hz => (h.el z hz).ext he h2, h.apart⟩
theorem Own.ext0 (h : Own e sz el w ok v zs) (he : Ext No w w1) : Own e sz el w1 ok v zs := h.ext he (fun _ _ h => h) fun _ _ _ h => h
theorem Own.mono (h : Own e sz el w ok v zs) (hk : ∀ k, k < w.heap.size → ok k → ok' k) (ha : ∀ k, ok' k → v.ownBlock ≠ some k) : Own e sz el w ok' v zs := ⟨h.row, fun z hz => (h.el z hz).mono hk, ha⟩
/-- As a list that is read. -/
theorem Row.rrow (hr : Row w e sz v chs) : RRow w sz v chs := by
  obtain ⟨A, c, hv, h1, h2⟩ := hr.slice
  refine ⟨A, c, hv, h1, h2, hr.1, fun i j ch u hi hj => ?_⟩
  obtain ⟨g', cap', hg', hc⟩ := hr.cell hi hj
  rw [hv] at hg'
  cases hg'
  exact ⟨_, rfl, by rw [add_lit, Nat.zero_add]; exact hc⟩
theorem Own.reads (h : Own e sz el w ok v zs) : Rd sz el w (fun k => ok k ∨ v.ownBlock = some k) v zs :=
  ⟨(h.row.foot.mono fun _ _ hk => .inr hk).imp fun _ hw => hw.rrow, fun z hz => (h.el z hz).mono fun _ _ hk => .inl hk⟩
theorem Own.len (h : Own e sz el w ok v zs) : zs.length ≤ maxLen := by have := h.row.len; simpa using this
theorem Own.slice (h : Own e sz el w ok v zs) : ∃ A c, v = .slice A zs.length c ∧ zs.length ≤ c ∧ c ≤ maxLen := by simpa using h.row.slice
theorem Own.take (h : Own e sz el w ok v zs) {A : Option Addr} {m c : Nat} (hv : v = .slice A m c) {i : Nat} (hi : i ≤ zs.length) : Own e sz el w ok (.slice A i c) (zs.take i) :=
  ⟨by rw [List.map_take]; exact h.row.take hv (by simpa using hi), fun z hz => h.el z (List.mem_of_mem_take hz), fun k hk => by have := h.apart k hk; rw [hv] at this; cases A with | none => simp [Value.ownBlock] | some ad => simpa [Value.ownBlock] using this⟩
end

/-! ### Appends -/
/-- What an append to a row of one's own leaves. -/
structure Apd (w w' : World) (v v' : Value) : Prop where
  ext : Ext (fun k => v.ownBlock = some k) w w'
  at_ : v'.ownBlock = v.ownBlock ∨ v'.ownBlock = some w.heap.size
theorem run_apd {P : Program} {t : TypeId} {z : Value} {bytes : Nat} {ty : TypeId} [ha : AI P t e z sz bytes] (hsz : 0 < sz) (hr : Row w e sz v chs) {a : Addr} {c : Nat} {news : List (List Value)} (hl : ∀ ch ∈ news, ch.length = sz)
    (hn : ∀ j u, news.flatten[j]? = some u → w.cell? (a.add j) = some u) (h1 : ∀ ch ∈ news, ∀ u ∈ ch, u.oneCell' = true) (hb : (chs.length + news.length) * bytes ≤ 140737488355328) (h63 : chs.length + news.length ≤ maxLen) :
    ∃ v' w', (Builtin.append_ #[t, t] ty #[v, .slice (some a) news.length c]).run P w = .ok v' w' ∧ Row w' e sz v' (chs ++ news) ∧ Apd w w' v v' := by
  obtain ⟨i, hi, hz, hs, hby⟩ := info_of ha.info
  obtain ⟨v', w', h2, h3, h4, _, h6⟩ := run_append_own_at (P := P) (w := w) 0 t ty e i z sz bytes ha.und hi hz hs hby ha.zs hsz v chs.length chs.flatten hr.2 a news.length c news.flatten (flatten_len news sz hl) hn
    (fun u hu => by obtain ⟨ch, hc, hu⟩ := List.mem_flatten.1 hu; exact h1 ch hc u hu) h63 hb (Nat.zero_le _)
  refine ⟨v', w', h2, ⟨fun ch hc => ?_, ?_⟩, Ext.of_grown h4 fun k hk => hk, h6⟩
  · rcases List.mem_append.1 hc with hc | hc
    · exact hr.1 ch hc
    · exact hl ch hc
  · rw [List.length_append, List.flatten_append]; exact h3
end

section
variable {α : Type} {el : World → List Value → α → Prop} {e sz : Nat} {w w1 w' : World} {ok okx : Nat → Prop} {v v' : Value} {zs : List (List Value × α)} {D : Nat → Prop}
/-- A row of one's own behind an append of one element. -/
theorem Own.append (h : Own e sz el w ok v zs) {c : List Value} {x : α} (hrow : Row w' e sz v' (zs.map (·.1) ++ [c])) (ha : Apd w w' v v') (hx : Foot (fun w => el w c x) w okx) (hxa : ∀ k, k < w.heap.size → okx k → v.ownBlock ≠ some k) :
    Own e sz el w' (fun k => (ok k ∨ okx k) ∧ k < w.heap.size ∧ v'.ownBlock ≠ some k) v' (zs ++ [(c, x)]) := by
  have key : ∀ k, k < w.heap.size → v.ownBlock ≠ some k → v'.ownBlock ≠ some k := fun k hk hn => by
    rcases ha.at_ with h1 | h1 <;> rw [h1]
    · exact hn
    · intro he; injection he with he; omega
  refine ⟨by simpa using hrow, fun z hz => ?_, fun k hk => hk.2.2⟩
  rcases List.mem_append.1 hz with hz | hz
  · refine ((h.el z hz).old ha.ext fun k hk ho => h.apart k ho).mono fun k _ hk => ⟨.inl hk.1, hk.2, key k hk.2 (h.apart k hk.1)⟩
  · simp at hz
    subst hz
    exact (hx.old ha.ext fun k hk ho => hxa k hk ho).mono fun k _ hk => ⟨.inr hk.1, hk.2, key k hk.2 (hxa k hk.2 hk.1)⟩
/-- A row that was made since w. -/
structure New (e sz : Nat) (el : World → List Value → α → Prop) (w w' : World) (v : Value) (zs : List (List Value × α)) : Prop where
  own : Own e sz el w' (fun k => w.heap.size ≤ k ∧ v.ownBlock ≠ some k) v zs
  new : ∀ g, v.ownBlock = some g → w.heap.size ≤ g
theorem New.nil (e sz : Nat) (el : World → List Value → α → Prop) (w w' : World) : New e sz el w w' (.slice none 0 0) [] := ⟨Own.nil _ _ _ _ _, fun g h => by simp [Value.ownBlock] at h⟩
theorem New.ext (h : New e sz el w w1 v zs) (he : Ext D w1 w') (hD : ∀ k, k < w1.heap.size → D k → k < w.heap.size) : New e sz el w w' v zs :=
  ⟨h.own.ext he (fun g hg hd => by have := h.new g hg; have := hD g (h.own.row.lt hg) hd; omega) fun k hk ho hd => by have := hD k hk hd; omega, h.new⟩
theorem New.ext0 (h : New e sz el w w1 v zs) (he : Ext No w1 w') : New e sz el w w' v zs := h.ext he fun _ _ h => h.elim
theorem New.elder (h : New e sz el w w1 v zs) {w0 : World} (hs : w0.heap.size ≤ w.heap.size) : New e sz el w0 w1 v zs := ⟨h.own.mono (fun _ _ hk => ⟨Nat.le_trans hs hk.1, hk.2⟩) fun _ hk => hk.2, fun g hg => Nat.le_trans hs (h.new g hg)⟩
theorem New.reads (h : New e sz el w w1 v zs) : Rd sz el w1 (fun k => w.heap.size ≤ k) v zs := h.own.reads.mono fun k _ hk => by rcases hk with hk | hk; exact hk.1; exact h.new k hk
theorem New.append {w2 w3 : World} (h : New e sz el w w1 v zs) (he : Ext No w1 w2) {c : List Value} {x : α} (hrow : Row w3 e sz v' (zs.map (·.1) ++ [c])) (ha : Apd w2 w3 v v') (hx : Foot (fun w => el w c x) w2 (fun k => w1.heap.size ≤ k)) (hs : w.heap.size ≤ w1.heap.size) : New e sz el w w3 v' (zs ++ [(c, x)]) := by
  have hlt : ∀ g, v.ownBlock = some g → g < w1.heap.size := fun g hg => h.own.row.lt hg
  refine ⟨((h.own.ext0 he).append hrow ha hx fun k _ hk hv => by have := hlt k hv; omega).mono (fun k _ hk => ⟨?_, hk.2.2⟩) fun k hk => hk.2, fun g hg => ?_⟩
  · rcases hk.1 with h1 | h1
    · exact h1.1
    · omega
  · rcases ha.at_ with h1 | h1 <;> rw [h1] at hg
    · exact h.new g hg
    · injection hg with hg; have := he.size; omega
end

section
variable {α : Type} {P : Program} {f n : Nat} {R : Ending → World → Prop} {k : List Item} {e : Env} {w w' w0 : World} {a : Act} {C C' : World → Prop} {D ok : Nat → Prop} {H : List Blk}
variable {ops : Array Oper} {rest : List Oper} {ty t : TypeId} {pos : String} {aft : Array Edge} {d el sz bytes : Nat} {v : Value} {x y : Operand} {chs : List (List Value)} {dst : Option Tmp} {gd : Option (Nat × Bool)}
theorem run_append {a : Act} {v' : Value} (ha : Fits n e a) {y2 : Value} (hx : opv e x = some v) (hy : opv e y = some y2) (h : (Builtin.append_ #[t, t] ty #[v, y2]).run P w = .ok v' w') :
    (execOp a.eval ⟨dst, .call { callee := .builtin .append, args := #[x, y], argTypes := #[t, t] }, ty, pos, aft, gd⟩).run P w = .ok (.value v') w' := by
  simp [execOp, resolve, invoke, builtin, ha.eval hx, ha.eval hy, h]
/-! ### Slices that are written out -/
theorem foldl_set : ∀ (l : List Value) (i off : Nat) (cs : Array Value), off + i + l.length ≤ cs.size →
    ((l.zipIdx i).foldl (fun cs (x : Value × Nat) => cs.setIfInBounds (off + x.2) x.1) cs).toList = cs.toList.take (off + i) ++ l ++ cs.toList.drop (off + i + l.length)
  | [], i, off, cs, h => by simp
  | x :: r, i, off, cs, h => by
    simp only [List.length_cons] at h
    rw [List.zipIdx_cons, List.foldl_cons]
    rw [foldl_set r (i + 1) off _ (by simp; omega)]
    simp only [Array.toList_setIfInBounds, List.length_cons]
    have h1 : off + i < cs.toList.length := by rw [Array.length_toList]; omega
    rw [show off + (i + 1) = (off + i) + 1 by omega, List.take_succ_eq_append_getElem (by rw [List.length_set]; exact h1), List.getElem_set_self, List.take_set_of_le (Nat.le_refl _), List.drop_set_of_lt (by omega)]
    simp [List.append_assoc]
    congr 1; omega
theorem fill_one {size : Nat} {l : List Value} {v : Value} {cs : Array Value} (hv : v.cells = l.toArray) (hl : l.length = size) (hc : cs.size = size) : Instr.fill (fun i => some (i * size, size)) cs [(0, v)] = some l.toArray := by
  have h := foldl_set l 0 0 cs (by omega)
  simp only [Nat.zero_add, List.take_zero, List.nil_append] at h
  rw [List.drop_eq_nil_of_le (by simp; omega), List.append_nil] at h
  have h2 : (l.zipIdx.foldl (fun cs (x : Value × Nat) => cs.setIfInBounds x.2 x.1) cs) = l.toArray := by
    apply Array.toList_inj.1
    simpa using h
  simp [Instr.fill, hv, hl, hc, h2]
/-- []T{} -/
theorem JL.bslice0 [hs : SI P t el sz] (hd : Nat.blt d n = true) (hk : ∀ b, JL P f n R (Cls w0 D (⟨b, [], el⟩ :: H)) ops rest k ((d, .slice (some ⟨b, 0, none⟩) 0 0) :: e)) :
    JL P f n R (Cls w0 D H) ops (⟨some d, .buildSlice t 0 #[], ty, pos, aft, none⟩ :: rest) k e := by
  refine JL.x (X := Nat) (vx := fun b => .slice (some ⟨b, 0, none⟩) 0 0) (Cx := fun b => Cls w0 D (⟨b, [], el⟩ :: H)) (fun a w ha hw => ⟨w.heap.size, w.alloc (.cells ([] : List Value).toArray el), ?_, hw.alloc [] el⟩) hd hk
  have h0 : (Array.map (fun _ => (default : Value)) (Array.range 0)) = #[] := by simp [Array.range]
  simp [execOp, Instr.buildSlice, Instr.fill, newRow, run_underlying hs.und, hs.sizeOf, h0]
theorem run_bslice1 {ag : Bool} {zv v : Value} {l : List Value} [hs : SI P t el sz] [ht : TI P el ag sz zv] (hsz : 0 < sz) (h24 : sz ≤ 1000) (hv : v.cells = l.toArray) (hl : l.length = sz) (w : World) :
    (Instr.buildSlice t 1 #[(0, v)]).run P w = .ok (.slice (some ⟨w.heap.size, 0, none⟩) 1 1) (w.alloc (.cells l.toArray el)) := by
  have hf := fun (cs : Array Value) (hc : cs.size = sz) => fill_one (size := sz) hv hl hc
  have h0 : ¬ (sz > 2 ^ 24) := by omega
  have h1 : ¬ (sz = 0) := by omega
  simp only [Instr.buildSlice, run_underlying hs.und, hs.sizeOf, ht.zero, Sem.run_bind, Result.andThen_ok, Nat.one_mul, h0, h1, if_false, Sem.run_pure]
  rw [hf _ (by simp)]
  simp [newRow]
/-- []T{x} -/
theorem JL.bslice1 {ag : Bool} {zv v : Value} {l : List Value} [hs : SI P t el sz] [ht : TI P el ag sz zv] (hx : opv e x = some v) (hv : v.cells = l.toArray) (hl : l.length = sz) (hsz : Nat.blt 0 sz = true) (h24 : Nat.ble sz 1000 = true) (hd : Nat.blt d n = true)
    (hk : ∀ b, JL P f n R (Cls w0 D (⟨b, l, el⟩ :: H)) ops rest k ((d, .slice (some ⟨b, 0, none⟩) 1 1) :: e)) :
    JL P f n R (Cls w0 D H) ops (⟨some d, .buildSlice t 1 #[(0, x)], ty, pos, aft, none⟩ :: rest) k e := by
  refine JL.x (X := Nat) (vx := fun b => .slice (some ⟨b, 0, none⟩) 1 1) (Cx := fun b => Cls w0 D (⟨b, l, el⟩ :: H)) (fun a w ha hw => ⟨w.heap.size, w.alloc (.cells l.toArray el), ?_, hw.alloc l el⟩) hd hk
  have := run_bslice1 (P := P) (t := t) (el := el) (zv := zv) (by simpa using hsz) (by simpa using h24) hv hl w
  simp [execOp, ha.eval hx, this]
/-- A known block as a row of one's own. -/
theorem Row.of_blk {b : Nat} {cs : List Value} (h : BlkIn w ⟨b, cs, el⟩) {chs : List (List Value)} {c : Nat} (hc : cs = chs.flatten) (hs : ∀ ch ∈ chs, ch.length = sz) (hl : chs.length = c) (hm : c ≤ maxLen) : Row w el sz (.slice (some ⟨b, 0, none⟩) c c) chs := by
  subst hl
  refine ⟨hs, flatten_len chs sz hs, .inr ⟨b, chs.length, cs.toArray, rfl, Nat.zero_le _, h, Nat.le_refl _, hm, ?_, ?_⟩⟩
  · simp [hc, flatten_len chs sz hs]
  · simp [hc]; rw [List.take_of_length_le (by rw [flatten_len chs sz hs]; omega)]
/-- The cells of a known block, as news. -/
theorem BlkIn.news {b : Nat} {cs : List Value} {t : TypeId} (h : BlkIn w ⟨b, cs, t⟩) : ∀ j u, cs[j]? = some u → w.cell? ((⟨b, 0, none⟩ : Addr).add j) = some u := fun j u hu => by
  rw [add_lit, Nat.zero_add, cell_of_row w b j _ t (0, 0) h]; simpa using hu

/-- An append to a row of one's own, at the world at hand. -/
theorem GL.append {z : Value} [ha : AI P t el z sz bytes] (hx : opv e x = some v) {ad : Addr} {c m : Nat} (hy : opv e y = some (.slice (some ad) m c)) (hsz : 0 < sz) (hr : Row w el sz v chs) (news : List (List Value)) (hm : news.length = m) (hl : ∀ ch ∈ news, ch.length = sz)
    (hn : ∀ j u, news.flatten[j]? = some u → w.cell? (ad.add j) = some u) (h1 : ∀ ch ∈ news, ∀ u ∈ ch, u.oneCell' = true) (hb : (chs.length + news.length) * bytes ≤ 140737488355328) (h63 : chs.length + news.length ≤ maxLen) (hd : Nat.blt d n = true)
    (hk : ∀ v' w', Row w' el sz v' (chs ++ news) → Apd w w' v v' → GL P f n R ops rest k ((d, v') :: e) w') :
    GL P f n R ops (⟨some d, .call { callee := .builtin .append, args := #[x, y], argTypes := #[t, t] }, ty, pos, aft, none⟩ :: rest) k e w := by
  intro a hf
  subst hm
  obtain ⟨v', w', h2, h3, h4⟩ := run_apd (P := P) (ty := ty) (t := t) hsz hr hl hn h1 hb h63 (a := ad) (c := c)
  exact wpList_val rfl (run_append hf hx hy h2) (hk v' w' h3 h4 _ (hf.put (by simpa using hd) v'))
/-- .. of one element that was written out. -/
theorem GL.append1 {z : Value} [ha : AI P t el z sz bytes] (hx : opv e x = some v) {b bt : Nat} {l : List Value} (hy : opv e y = some (.slice (some ⟨b, 0, none⟩) 1 1)) (hr : Row w el sz v chs) (hb : BlkIn w ⟨b, l, bt⟩) (hsz : Nat.blt 0 sz = true) (hl : l.length = sz) (h1 : ∀ u ∈ l, u.oneCell' = true)
    (hn : chs.length ≤ 1000000000) (hby : Nat.ble bytes 1000 = true) (hd : Nat.blt d n = true) (hk : ∀ v' w', Row w' el sz v' (chs ++ [l]) → Apd w w' v v' → GL P f n R ops rest k ((d, v') :: e) w') :
    GL P f n R ops (⟨some d, .call { callee := .builtin .append, args := #[x, y], argTypes := #[t, t] }, ty, pos, aft, none⟩ :: rest) k e w := by
  have hby' : bytes ≤ 1000 := by simpa using hby
  refine GL.append hx hy (by simpa using hsz) hr [l] rfl (by simpa using hl) (by simpa using hb.news) (by simpa using h1) ?_ ?_ hd hk
  · have := Nat.mul_le_mul (show chs.length + 1 ≤ 1000000001 by omega) hby'
    simp only [List.length_cons, List.length_nil, Nat.zero_add]; omega
  · simp [maxLen]; omega
end
end Go.Proofs.Ytmkpbbdocndfbaa
