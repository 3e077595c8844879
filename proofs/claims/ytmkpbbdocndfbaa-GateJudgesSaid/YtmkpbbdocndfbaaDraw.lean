/- The engine: regions whose order is drawn (own work, over the printed words' WLast). -/
import Derived.Test.YtmkpbbdocndfbaaOps
import Derived.Test.YtmkpbbdocndfbaaWLast
namespace Go.Proofs.Ytmkpbbdocndfbaa
open Go.RowKit Go.Proofs.YtmkpbbdocndfbaaW.PrintLast

class Wide (P : Program) : Prop where
  h : P.follows .mixedOrders = true

section
variable {P : Program} {f n : Nat} {R : Ending → World → Prop} {k : List Item} {e e' : Env} {w w' w0 : World} {a : Act} {C C' S : World → Prop} {D : Nat → Prop} {H H' : List Blk}
variable {ops : Array Oper} {ty t t2 : TypeId} {pos : String} {aft : Array Edge} {d fuel : Nat} {v : Value} {x y z : Operand} {dst : Option Tmp} {p q : Int} {b o : Nat} {cs : List Value} {ds : List Nat} {l : Array Bool} {op : Op}

/-- In a region that draws its order: l has come up; S holds behind each operation but those of ds. -/
def DR (P : Program) (f n : Nat) (R : Ending → World → Prop) (S : World → Prop) (ds : List Nat) (ops : Array Oper) (fuel : Nat) (l : Array Bool) (k : List Item) (e : Env) (w : World) : Prop :=
  ∀ a, Fits n e a → wpAnyLast P .any ops (GQ P f R k) S ds fuel l a w

theorem J.draw [hm : Wide P] {id m : Nat} (S : World → Prop) (ds : List Nat) (l0 : Array Bool) (hn : ops.size = m) (hl : Array.replicate m false = l0) (hC : ∀ w, C w → S w.drew)
    (h : ∀ w, S w → DR P f n R S ds ops m l0 k e w) : J P f n R C (.code (.region id ops true) :: k) e :=
  fun w hw a ha => .of_wp (start_ l0 hm.h hn hl (hC w hw) fun hS => h _ hS a ha)
theorem DR.done (hr : (Region.ready .any ops l == []) = true) (h : G P f n R k e w) : DR P f n R S ds ops fuel l k e w := fun a ha => done_ hr (h a ha)
theorem noPanic (d : Option Tmp) (v : Value) : ∀ c a w, GQ P f R k (.panic c) (a.put d v) w → GQ P f R k (.panic c) a w := fun _ _ _ h => h.elim
/-- Taken first: it yields v wherever S holds. -/
theorem DR.take (i : Nat) (l' : Array Bool) (hi : ops[i]? = some ⟨some d, op, ty, pos, aft, none⟩) (hc : takeB .any ops ds l l' i = true) (hy : Yl P S n e ⟨some d, op, ty, pos, aft, none⟩ v) (hd : Nat.blt d n = true) (hS : S w)
    (h : DR P f n R S ds ops fuel l' k ((d, v) :: e) w) : DR P f n R S ds ops (fuel + 1) l k e w :=
  fun a ha => take_ l' hi rfl hc (noPanic _ _) (.inl ⟨rfl, fun w hw => hy a w ha hw⟩) hS rfl (h _ (ha.put (by simpa using hd) v))
/-- Taken first: it yields v whatever the world. -/
theorem DR.pure (i : Nat) (l' : Array Bool) (hi : ops[i]? = some ⟨some d, op, ty, pos, aft, none⟩) (hc : anyB .any ops l l' i = true) (hy : Yl P (fun _ => True) n e ⟨some d, op, ty, pos, aft, none⟩ v) (hd : Nat.blt d n = true)
    (h : DR P f n R S ds ops fuel l' k ((d, v) :: e) w) : DR P f n R S ds ops (fuel + 1) l k e w :=
  fun a ha => pure_ l' hi rfl hc (noPanic _ _) (.inl ⟨rfl, fun w => hy a w ha trivial⟩) rfl (h _ (ha.put (by simpa using hd) v))
theorem guard_val (ha : Fits n e a) {j dj : Nat} {r : Bool} (hj : (ops[j]?).bind (·.dst) = some dj) (hjn : Nat.blt dj n = true) (hv : e.get dj = some (.bool r)) : yielded ops a.tmps j = some r := by
  have h1 := ha.get dj _ hv
  have hlt : dj < a.tmps.size := by rw [ha.sz]; simpa using hjn
  simp only [Array.getD_eq_getD_getElem?, Array.getElem?_eq_getElem hlt, Option.getD_some] at h1
  simp [yielded, hj, Array.getElem?_eq_getElem hlt, h1]
/-- The same of one whose guard is met. -/
theorem DR.takeG (i : Nat) (l' : Array Bool) {j dj : Nat} {r : Bool} (hi : ops[i]? = some ⟨some d, op, ty, pos, aft, some (j, r)⟩) (hj : (ops[j]?).bind (·.dst) = some dj) (hjn : Nat.blt dj n = true) (hv : e.get dj = some (.bool r)) (hc : takeB .any ops ds l l' i = true) (hy : Yl P S n e ⟨some d, op, ty, pos, aft, some (j, r)⟩ v) (hd : Nat.blt d n = true) (hS : S w)
    (h : DR P f n R S ds ops fuel l' k ((d, v) :: e) w) : DR P f n R S ds ops (fuel + 1) l k e w :=
  fun a ha => take_ l' hi rfl hc (noPanic _ _) (.inl ⟨by simp [Region.wanted, guard_val ha hj hjn hv], fun w hw => hy a w ha hw⟩) hS rfl (h _ (ha.put (by simpa using hd) v))
theorem DR.pureG (i : Nat) (l' : Array Bool) {j dj : Nat} {r : Bool} (hi : ops[i]? = some ⟨some d, op, ty, pos, aft, some (j, r)⟩) (hj : (ops[j]?).bind (·.dst) = some dj) (hjn : Nat.blt dj n = true) (hv : e.get dj = some (.bool r)) (hc : anyB .any ops l l' i = true) (hy : Yl P (fun _ => True) n e ⟨some d, op, ty, pos, aft, some (j, r)⟩ v) (hd : Nat.blt d n = true)
    (h : DR P f n R S ds ops fuel l' k ((d, v) :: e) w) : DR P f n R S ds ops (fuel + 1) l k e w :=
  fun a ha => pure_ l' hi rfl hc (noPanic _ _) (.inl ⟨by simp [Region.wanted, guard_val ha hj hjn hv], fun w => hy a w ha trivial⟩) rfl (h _ (ha.put (by simpa using hd) v))
/-- One whose guard is not met. -/
theorem DR.not (i : Nat) (l' : Array Bool) {j dj : Nat} {r r' : Bool} (hi : ops[i]? = some ⟨some d, op, ty, pos, aft, some (j, r)⟩) (hj : (ops[j]?).bind (·.dst) = some dj) (hjn : Nat.blt dj n = true) (hv : e.get dj = some (.bool r')) (hr : (r' == r) = false) (hc : anyB .any ops l l' i = true) (hd : Nat.blt d n = true)
    (h : DR P f n R S ds ops fuel l' k ((d, undef) :: e) w) : DR P f n R S ds ops (fuel + 1) l k e w :=
  fun a ha => pure_ l' hi rfl hc (noPanic _ _) (.inr ⟨by
    have h1 : (some r' == some r) = false := by simpa using hr
    simp only [Region.wanted, guard_val ha hj hjn hv, h1], rfl⟩) rfl (h _ (ha.put (by simpa using hd) undef))
theorem want_if {oi : Oper} {N : Option Tmp} {K : Act → World → Prop} {Q : Exit → Act → World → Prop} (hw : Region.wanted oi (yielded ops a.tmps) = true) (h : oi.wp P a w K Q) :
    if Region.wanted oi (yielded ops a.tmps) = true then Oper.wp P oi a w K Q else K (a.put N undef) w := by rw [if_pos hw]; exact h
/-- The only one that may come up: a call. -/
theorem DR.callC {g : Nat} {xs : List Operand} {vs cap : List Value} {ats : Array TypeId} (i : Nat) (l' : Array Bool) (Φ : Value → World → Prop) (hi : ops[i]? = some ⟨some d, .call { callee := .value x, args := xs.toArray, argTypes := ats }, ty, pos, aft, none⟩)
    (hc : readyB .any ops l l' i = true) (hds : (ds.contains i) = false) (hf : opv e x = some (.func (.func g) #[] cap.toArray)) (hcl : CI P g) (hx : opvs e xs = some vs) (hd : Nat.blt d n = true)
    (h : Calls P g (vs ++ cap).toArray w fun e w' => ∃ v, e = .returned v ∧ Φ v w') (hS : ∀ v w', Φ v w' → S w') (hk : ∀ v w', Φ v w' → S w' → DR P f n R S ds ops fuel l' k ((d, v) :: e) w') : DR P f n R S ds ops (fuel + 1) l k e w := by
  intro a ha
  refine one_ l' hi rfl hc (by simpa using hds) fun K hK => want_if rfl ?_
  have hr := run_call (P := P) (ty := ty) (pos := pos) (aft := aft) (dst := some d) (gd := none) (ats := ats) ha hf hx hcl.run w
  unfold Oper.wp
  rw [hr, Oper.upon_enter]
  have h' : Calls P g (vs.toArray ++ cap.toArray) w fun e w' => ∃ v, e = .returned v ∧ Φ v w' := by simpa using h
  refine h'.mono fun en w' he => ?_
  obtain ⟨v, rfl, hv⟩ := he
  exact hK.out _ _ (hS v w' hv) fun hS' => hk v w' hv hS' _ (ha.put (by simpa using hd) v)
theorem DR.call {g : Nat} {xs : List Operand} {vs : List Value} {ats : Array TypeId} [hcl : CI P g] (i : Nat) (l' : Array Bool) (Φ : Value → World → Prop) (hi : ops[i]? = some ⟨some d, .call { callee := .value (.func g), args := xs.toArray, argTypes := ats }, ty, pos, aft, none⟩)
    (hc : readyB .any ops l l' i = true) (hds : (ds.contains i) = false) (hx : opvs e xs = some vs) (hd : Nat.blt d n = true)
    (h : Calls P g vs.toArray w fun e w' => ∃ v, e = .returned v ∧ Φ v w') (hS : ∀ v w', Φ v w' → S w') (hk : ∀ v w', Φ v w' → S w' → DR P f n R S ds ops fuel l' k ((d, v) :: e) w') : DR P f n R S ds ops (fuel + 1) l k e w :=
  DR.callC (cap := []) i l' Φ hi hc hds rfl hcl hx hd (by simpa using h) hS hk
/-- .. a call that computes v. -/
theorem DR.callq {g : Nat} {xs : List Operand} {vs : List Value} {ats : Array TypeId} [hcl : CI P g] (i : Nat) (l' : Array Bool) (hi : ops[i]? = some ⟨some d, .call { callee := .value (.func g), args := xs.toArray, argTypes := ats }, ty, pos, aft, none⟩)
    (hc : readyB .any ops l l' i = true) (hds : (ds.contains i) = false) (hx : opvs e xs = some vs) (hd : Nat.blt d n = true)
    (h : Calls P g vs.toArray w fun e w' => e = .returned v ∧ Ext No w w') (hS : ∀ w', Ext No w w' → S w') (hk : ∀ w', Ext No w w' → S w' → DR P f n R S ds ops fuel l' k ((d, v) :: e) w') : DR P f n R S ds ops (fuel + 1) l k e w :=
  DR.call (g := g) i l' (fun u w' => u = v ∧ Ext No w w') hi hc hds hx hd (h.mono fun en w' he => ⟨v, he.1, rfl, he.2⟩) (fun u w' hu => hS w' hu.2) (fun u w' hu hS' => by rw [hu.1]; exact hk w' hu.2 hS')
theorem DR.callqC {g : Nat} {xs : List Operand} {vs cap : List Value} {ats : Array TypeId} (i : Nat) (l' : Array Bool) (hi : ops[i]? = some ⟨some d, .call { callee := .value x, args := xs.toArray, argTypes := ats }, ty, pos, aft, none⟩)
    (hc : readyB .any ops l l' i = true) (hds : (ds.contains i) = false) (hf : opv e x = some (.func (.func g) #[] cap.toArray)) (hcl : CI P g) (hx : opvs e xs = some vs) (hd : Nat.blt d n = true)
    (h : Calls P g (vs ++ cap).toArray w fun e w' => e = .returned v ∧ Ext No w w') (hS : ∀ w', Ext No w w' → S w') (hk : ∀ w', Ext No w w' → S w' → DR P f n R S ds ops fuel l' k ((d, v) :: e) w') : DR P f n R S ds ops (fuel + 1) l k e w :=
  DR.callC i l' (fun u w' => u = v ∧ Ext No w w') hi hc hds hf hcl hx hd (h.mono fun en w' he => ⟨v, he.1, rfl, he.2⟩) (fun u w' hu => hS w' hu.2) (fun u w' hu hS' => by rw [hu.1]; exact hk w' hu.2 hS')
/-- A call whose guard is met. -/
theorem DR.callqCG {g : Nat} {xs : List Operand} {vs cap : List Value} {ats : Array TypeId} (i : Nat) (l' : Array Bool) {j dj : Nat} {r : Bool} (hi : ops[i]? = some ⟨some d, .call { callee := .value x, args := xs.toArray, argTypes := ats }, ty, pos, aft, some (j, r)⟩)
    (hj : (ops[j]?).bind (·.dst) = some dj) (hjn : Nat.blt dj n = true) (hgv : e.get dj = some (.bool r))
    (hc : readyB .any ops l l' i = true) (hds : (ds.contains i) = false) (hf : opv e x = some (.func (.func g) #[] cap.toArray)) (hcl : CI P g) (hx : opvs e xs = some vs) (hd : Nat.blt d n = true)
    (h : Calls P g (vs ++ cap).toArray w fun e w' => e = .returned v ∧ Ext No w w') (hS : ∀ w', Ext No w w' → S w') (hk : ∀ w', Ext No w w' → S w' → DR P f n R S ds ops fuel l' k ((d, v) :: e) w') : DR P f n R S ds ops (fuel + 1) l k e w := by
  intro a ha
  refine one_ l' hi rfl hc (by simpa using hds) fun K hK => want_if (by simp [Region.wanted, guard_val ha hj hjn hgv]) ?_
  have hr := run_call (P := P) (ty := ty) (pos := pos) (aft := aft) (dst := some d) (gd := some (j, r)) (ats := ats) ha hf hx hcl.run w
  unfold Oper.wp
  rw [hr, Oper.upon_enter]
  have h' : Calls P g (vs.toArray ++ cap.toArray) w fun e w' => e = .returned v ∧ Ext No w w' := by simpa using h
  refine h'.mono fun en w' he => ?_
  obtain ⟨rfl, hv⟩ := he
  exact hK.out _ _ (hS w' hv) fun hS' => hk w' hv hS' _ (ha.put (by simpa using hd) v)
/-- The only one that may come up, whatever it does. -/
theorem DR.one (i : Nat) (l' : Array Bool) (w' : World) (hi : ops[i]? = some ⟨some d, op, ty, pos, aft, none⟩) (hc : readyB .any ops l l' i = true) (hds : (ds.contains i) = false) (hr : ∀ a, Fits n e a → (execOp a.eval ⟨some d, op, ty, pos, aft, none⟩).run P w = .ok (.value v) w') (hd : Nat.blt d n = true) (hS : S w')
    (hk : DR P f n R S ds ops fuel l' k ((d, v) :: e) w') : DR P f n R S ds ops (fuel + 1) l k e w := by
  intro a ha
  refine one_ l' hi rfl hc (by simpa using hds) fun K hK => want_if rfl ?_
  unfold Oper.wp
  rw [hr a ha]
  exact hK.out _ _ hS fun _ => hk _ (ha.put (by simpa using hd) v)
/-- .. one of ds. -/
theorem DR.oneL (i : Nat) (l' : Array Bool) (w' : World) (hi : ops[i]? = some ⟨some d, op, ty, pos, aft, none⟩) (hc : readyB .any ops l l' i = true) (hds : (ds.contains i) = true) (hr : ∀ a, Fits n e a → (execOp a.eval ⟨some d, op, ty, pos, aft, none⟩).run P w = .ok (.value v) w') (hd : Nat.blt d n = true)
    (hk : DR P f n R S ds ops fuel l' k ((d, v) :: e) w') : DR P f n R S ds ops (fuel + 1) l k e w := by
  intro a ha
  refine last_ l' hi rfl hc (by simpa using hds) fun K hK => want_if rfl ?_
  unfold Oper.wp
  rw [hr a ha]
  exact hK.out _ _ (hk _ (ha.put (by simpa using hd) v))
/-- A store of ds. -/
theorem DR.st (i : Nat) (l' : Array Bool) (w' : World) (hi : ops[i]? = some ⟨none, op, ty, pos, aft, none⟩) (hc : readyB .any ops l l' i = true) (hds : (ds.contains i) = true) (hr : ∀ a, Fits n e a → (execOp a.eval ⟨none, op, ty, pos, aft, none⟩).run P w = .ok .skip w')
    (hk : DR P f n R S ds ops fuel l' k e w') : DR P f n R S ds ops (fuel + 1) l k e w := by
  intro a ha
  refine last_ l' hi rfl hc (by simpa using hds) fun K hK => want_if rfl ?_
  unfold Oper.wp
  rw [hr a ha]
  exact hK.out _ _ (hk _ ha)
/-- A store into a known block. -/
theorem DR.store (i : Nat) (l' : Array Bool) (hi : ops[i]? = some ⟨none, .store t x y, ty, pos, aft, none⟩) (hc : readyB .any ops l l' i = true) (hds : (ds.contains i) = true) (hw : C w) (hst : Stores P n e C C' ⟨none, .store t x y, ty, pos, aft, none⟩)
    (hk : ∀ w', C' w' → DR P f n R S ds ops fuel l' k e w') : DR P f n R S ds ops (fuel + 1) l k e w := by
  intro a ha
  obtain ⟨w', hr, hC⟩ := hst a w ha hw
  refine last_ l' hi rfl hc (by simpa using hds) fun K hK => want_if rfl ?_
  unfold Oper.wp
  rw [hr]
  exact hK.out _ _ (hk w' hC _ ha)
/-- A new block. -/
theorem DR.alloc {ag : Bool} {s : Nat} {zv : Value} (i : Nat) (l' : Array Bool) (hi : ops[i]? = some ⟨some d, .alloc t, ty, pos, aft, none⟩) (hc : readyB .any ops l l' i = true) (hds : (ds.contains i) = false) (ht : TI P t ag s zv) (hz : zv.cells = cs.toArray) (hd : Nat.blt d n = true) (hw : Cls w0 D H w) (hS : ∀ w', Ext No w w' → S w')
    (hk : ∀ b w', Cls w0 D (⟨b, cs, t⟩ :: H) w' → S w' → DR P f n R S ds ops fuel l' k ((d, .pointer (some ⟨b, 0, none⟩)) :: e) w') : DR P f n R S ds ops (fuel + 1) l k e w :=
  DR.one i l' (w.alloc (.cells cs.toArray t)) hi hc hds (fun a _ => by simp [execOp, Instr.alloc, newVar, newRow, ht.zero, hz]) hd (hS _ (.alloc _ _)) (hk _ _ (hw.alloc cs t) (hS _ (.alloc _ _)))
theorem DR.box (i : Nat) (l' : Array Bool) (hi : ops[i]? = some ⟨some d, .box t x, ty, pos, aft, none⟩) (hc : readyB .any ops l l' i = true) (hds : (ds.contains i) = false) (hx : opv e x = some v) (hz : v.cells = cs.toArray) (hd : Nat.blt d n = true) (hw : Cls w0 D H w) (hS : ∀ w', Ext No w w' → S w')
    (hk : ∀ b w', Cls w0 D (⟨b, cs, t⟩ :: H) w' → S w' → DR P f n R S ds ops fuel l' k ((d, .pointer (some ⟨b, 0, none⟩)) :: e) w') : DR P f n R S ds ops (fuel + 1) l k e w :=
  DR.one i l' (w.alloc (.cells cs.toArray t)) hi hc hds (fun a ha => by simp [execOp, Instr.box, newVar, newRow, ha.eval hx, hz]) hd (hS _ (.alloc _ _)) (hk _ _ (hw.alloc cs t) (hS _ (.alloc _ _)))
end
end Go.Proofs.Ytmkpbbdocndfbaa
