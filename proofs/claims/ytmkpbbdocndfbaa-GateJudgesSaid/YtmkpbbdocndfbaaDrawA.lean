/- The engine: regions that draw their order, with a new variable that may be made at any time beside a chain of calls. -/
import Derived.Test.YtmkpbbdocndfbaaRef10c
namespace Go.Proofs.Ytmkpbbdocndfbaa
open Go.RowKit Go.Proofs.YtmkpbbdocndfbaaW.PrintLast

section
variable {P : Program} {f n : Nat} {R : Ending → World → Prop} {k : List Item} {e e' : Env} {w w' w0 : World} {S : World → Prop} {ops : Array Oper} {ty t : TypeId} {pos : String} {aft : Array Edge} {d dj fuel i : Nat} {v : Value} {ds : List Nat} {l l' l1 l1' : Array Bool} {cs : List Value} {op : Op} {U : Nat → Prop}
theorem DR.weakF (h : DR P f n R S ds ops fuel l k e' w) (hf : ∀ a, Fits n e a → Fits n e' a) : DR P f n R S ds ops fuel l k e w := by
  unfold DR at h ⊢
  exact fun a ha => h a (hf a ha)
theorem Fits.drop {a : Act} {u : Value} (h : Fits n ((d, u) :: e) a) (hn : e.get d = none) : Fits n e a := ⟨h.df, h.sz, fun t v ht => h.get t v (by
  rw [Env.get_cons]
  by_cases hd : d = t
  · subst hd; rw [hn] at ht; cases ht
  · rw [if_neg hd]; exact ht)⟩
theorem Fits.swap {a : Act} {u : Value} (h : Fits n ((dj, v) :: (d, u) :: e) a) (hn : Nat.beq dj d = false) : Fits n ((d, u) :: (dj, v) :: e) a := ⟨h.df, h.sz, fun t x ht => h.get t x (by
  have hne := Nat.ne_of_beq_eq_false hn
  rw [Env.get_cons, Env.get_cons] at ht ⊢
  by_cases h1 : dj = t
  · subst h1
    rw [if_neg (fun h => hne h.symm), if_pos rfl] at ht
    rw [if_pos rfl]; exact ht
  · rw [if_neg h1]
    by_cases h2 : d = t
    · rw [if_pos h2] at ht ⊢; exact ht
    · rw [if_neg h2] at ht ⊢
      rw [if_neg h1] at ht; exact ht)⟩
/-- Operation i makes the variable d; it has not come up yet (l), or it has (l'); U: what was made meanwhile and is still spoken of. -/
def DRA (P : Program) (f n : Nat) (R : Ending → World → Prop) (S : World → Prop) (ds : List Nat) (ops : Array Oper) (w0 : World) (d : Nat) (cs : List Value) (t : TypeId) (U : Nat → Prop) (fuel : Nat) (l l' : Array Bool) (k : List Item) (e : Env) (w : World) : Prop :=
  DR P f n R S ds ops (fuel + 1) l k e w ∧ ∀ b, w0.heap.size ≤ b → ¬ U b → BlkIn w ⟨b, cs, t⟩ → DR P f n R S ds ops fuel l' k ((d, .pointer (some ⟨b, 0, none⟩)) :: e) w
theorem DRA.go (h : DRA P f n R S ds ops w0 d cs t U fuel l l' k e w) : DR P f n R S ds ops (fuel + 1) l k e w := h.1
/-- What is taken first either way. -/
theorem DRA.take (j : Nat) (l1 l1' : Array Bool) (hj : ops[j]? = some ⟨some dj, op, ty, pos, aft, none⟩) (hc : takeB .any ops ds l l1 j = true) (hc' : takeB .any ops ds l' l1' j = true) (hy : Yl P S n e ⟨some dj, op, ty, pos, aft, none⟩ v) (hd : Nat.blt dj n = true) (hS : S w) (hn : e.get d = none) (hne : Nat.beq dj d = false)
    (h : DRA P f n R S ds ops w0 d cs t U fuel l1 l1' k ((dj, v) :: e) w) : DRA P f n R S ds ops w0 d cs t U (fuel + 1) l l' k e w :=
  ⟨DR.take j l1 hj hc hy hd hS h.1, fun b hb hU hB => DR.take j l1' hj hc' (by unfold Yl at hy ⊢; exact fun a w ha hw => hy a w (ha.drop hn) hw) hd hS ((h.2 b hb hU hB).weakF fun a ha => ha.swap hne)⟩
theorem DRA.pure (j : Nat) (l1 l1' : Array Bool) (hj : ops[j]? = some ⟨some dj, op, ty, pos, aft, none⟩) (hc : anyB .any ops l l1 j = true) (hc' : anyB .any ops l' l1' j = true) (hy : Yl P (fun _ => True) n e ⟨some dj, op, ty, pos, aft, none⟩ v) (hd : Nat.blt dj n = true) (hn : e.get d = none) (hne : Nat.beq dj d = false)
    (h : DRA P f n R S ds ops w0 d cs t U fuel l1 l1' k ((dj, v) :: e) w) : DRA P f n R S ds ops w0 d cs t U (fuel + 1) l l' k e w :=
  ⟨DR.pure j l1 hj hc hy hd h.1, fun b hb hU hB => DR.pure j l1' hj hc' (by unfold Yl at hy ⊢; exact fun a w ha hw => hy a w (ha.drop hn) hw) hd ((h.2 b hb hU hB).weakF fun a ha => ha.swap hne)⟩
/-- Two may come up: the variable, or a call. -/
def twoB (ops : Array Oper) (l li lj : Array Bool) (i j : Nat) : Bool := (Region.ready .any ops l == [i, j] || Region.ready .any ops l == [j, i]) && l.setIfInBounds i true == li && l.setIfInBounds j true == lj
theorem DRA.call {g : Nat} {xs : List Operand} {vs : List Value} {ats : Array TypeId} [hcl : CI P g] {tyi : TypeId} {posi : String} {afti : Array Edge} {ag : Bool} {s : Nat} {zv : Value} (i j : Nat) (l1 l1' : Array Bool) (Φ : Value → (Nat → Prop) → World → Prop) (D : Nat → Prop)
    (hi : ops[i]? = some ⟨some d, .alloc t, tyi, posi, afti, none⟩) (hj : ops[j]? = some ⟨some dj, .call { callee := .value (.func g), args := xs.toArray, argTypes := ats }, ty, pos, aft, none⟩)
    (hc : twoB ops l l' l1 i j = true) (hc' : readyB .any ops l' l1' j = true) (hdi : (ds.contains i) = false) (hdj : (ds.contains j) = false) (hx : opvs e xs = some vs) (hd : Nat.blt d n = true) (hd' : Nat.blt dj n = true) (hn : e.get d = none) (hne : Nat.beq dj d = false)
    (ht : TI P t ag s zv) (hz : zv.cells = cs.toArray) (hS : S w) (hS1 : ∀ w w', S w → Ext No w w' → S w') (hsz : ∀ w, S w → w0.heap.size ≤ w.heap.size) (hD : ∀ k, D k → k < w0.heap.size) (hU : ∀ k, U k → k < w.heap.size)
    (h : ∀ w1, Ext No w w1 → S w1 → Calls P g vs.toArray w1 fun e w' => ∃ v N, e = .returned v ∧ Φ v N w' ∧ (∀ k, N k → w1.heap.size ≤ k ∧ k < w'.heap.size) ∧ Ext D w1 w' ∧ S w')
    (hk : ∀ v N w', Φ v N w' → S w' → (∀ k, N k → k < w'.heap.size) → (∀ k, U k ∨ N k → k < w'.heap.size) → DRA P f n R S ds ops w0 d cs t (fun k => U k ∨ N k) fuel l1 l1' k ((dj, v) :: e) w') : DRA P f n R S ds ops w0 d cs t U (fuel + 1) l l' k e w := by
  have hB : ∀ w1, Ext No w w1 → S w1 → ∀ b, w0.heap.size ≤ b → ¬ U b → BlkIn w1 ⟨b, cs, t⟩ → DR P f n R S ds ops (fuel + 1) l' k ((d, .pointer (some ⟨b, 0, none⟩)) :: e) w1 := fun w1 he hS1' b hb hUb hBl =>
    DR.call (g := g) j l1' (fun v w' => ∃ N, Φ v N w' ∧ (∀ k, N k → w1.heap.size ≤ k ∧ k < w'.heap.size) ∧ Ext D w1 w' ∧ S w') hj hc' hdj (by
      have key : ∀ (xs : List Operand) (vs : List Value), opvs e xs = some vs → opvs ((d, Value.pointer (some ⟨b, 0, none⟩)) :: e) xs = some vs := by
        intro xs
        induction xs with
        | nil => intro vs h; simpa [opvs] using h
        | cons x r ih =>
          intro vs h
          simp only [opvs] at h ⊢
          cases h1 : opv e x with
          | none => simp [h1] at h
          | some v1 =>
            cases h2 : opvs e r with
            | none => simp [h1, h2] at h
            | some v2 =>
              have h3 : opv ((d, Value.pointer (some ⟨b, 0, none⟩)) :: e) x = some v1 := by
                cases x with
                | tmp t' =>
                  simp only [opv] at h1 ⊢
                  rw [Env.get_cons]
                  by_cases hdt : d = t'
                  · subst hdt; rw [hn] at h1; cases h1
                  · rw [if_neg hdt]; exact h1
                | const c => exact h1
                | global g => exact h1
                | func g => exact h1
              rw [h3, ih v2 h2]
              simp only [h1, h2] at h
              exact h
      exact key xs vs hx) hd' ((h w1 he hS1').mono fun en w' ⟨v, N, h1, h2⟩ => ⟨v, h1, N, h2⟩) (fun v w' ⟨N, hv⟩ => hv.2.2.2) fun v w' ⟨N, hv, hN, hE, _⟩ hS' => ((hk v N w' hv hS' (fun k hk => (hN k hk).2) (fun k hk => hk.elim (fun h1 => Nat.lt_of_lt_of_le (hU k h1) (Nat.le_trans he.size hE.size)) fun h1 => (hN k h1).2)).2 b hb (fun h' => h'.elim hUb fun h1 => by have := (hN b h1).1; have := hBl.lt; simp only at this; omega) (hBl.keep hE fun hd'' => by have := hD _ hd''; simp only at this; omega)).weakF fun a ha => ha.swap hne
  refine ⟨?_, fun b hb hUb hBl => hB w (Ext.refl _ _) hS b hb hUb hBl⟩
  have hal : S (w.alloc (.cells cs.toArray t)) := hS1 _ _ hS (.alloc _ _)
  have hAi := hB _ (.alloc w _) hal w.heap.size (hsz w hS) (fun h => by have := hU _ h; omega) (heap_alloc_new w _)
  unfold DR at hAi ⊢
  intro a ha
  have run_i : ∀ K : Act → World → Prop, Shut (∀ a' w', S w' → (S w' → wpAnyLast P .any ops (GQ P f R k) S ds (fuel + 1) l' a' w') → K a' w') → if Region.wanted ⟨some d, .alloc t, tyi, posi, afti, none⟩ (yielded ops a.tmps) = true then Oper.wp P ⟨some d, .alloc t, tyi, posi, afti, none⟩ a w K (GQ P f R k) else K (a.put (some d) undef) w := fun K hK => want_if rfl (by
    unfold Oper.wp
    rw [show (execOp a.eval ⟨some d, .alloc t, tyi, posi, afti, none⟩).run P w = .ok (.value (.pointer (some ⟨w.heap.size, 0, none⟩))) (w.alloc (.cells cs.toArray t)) by simp [execOp, Instr.alloc, newVar, newRow, ht.zero, hz]]
    exact hK.out _ _ hal fun _ => hAi _ (ha.put (by simpa using hd) _))
  have run_j : ∀ K : Act → World → Prop, Shut (∀ a' w', S w' → (S w' → wpAnyLast P .any ops (GQ P f R k) S ds (fuel + 1) l1 a' w') → K a' w') → if Region.wanted ⟨some dj, .call { callee := .value (.func g), args := xs.toArray, argTypes := ats }, ty, pos, aft, none⟩ (yielded ops a.tmps) = true then Oper.wp P ⟨some dj, .call { callee := .value (.func g), args := xs.toArray, argTypes := ats }, ty, pos, aft, none⟩ a w K (GQ P f R k) else K (a.put (some dj) undef) w := fun K hK => want_if rfl (by
    have hr := run_call (P := P) (ty := ty) (pos := pos) (aft := aft) (dst := some dj) (gd := none) (ats := ats) (x := .func g) (cap := #[]) ha rfl hx hcl.run w
    unfold Oper.wp
    rw [hr, Oper.upon_enter]
    have h' : Calls P g (vs.toArray ++ #[]) w fun e w' => ∃ v N, e = .returned v ∧ Φ v N w' ∧ (∀ k, N k → w.heap.size ≤ k ∧ k < w'.heap.size) ∧ Ext D w w' ∧ S w' := by simpa using h w (Ext.refl _ _) hS
    refine h'.mono fun en w' he => ?_
    obtain ⟨v, N, rfl, hv, hN, hE, hS'⟩ := he
    have := (hk v N w' hv hS' (fun k hk => (hN k hk).2) (fun k hk => hk.elim (fun h1 => Nat.lt_of_lt_of_le (hU k h1) hE.size) fun h1 => (hN k h1).2)).1
    unfold DR at this
    exact hK.out _ _ hS' fun _ => this _ (ha.put (by simpa using hd') v))
  simp only [twoB, Bool.and_eq_true, beq_iff_eq, Bool.or_eq_true] at hc
  obtain ⟨⟨h3, h4⟩, h5⟩ := hc
  rcases h3 with h3 | h3
  · exact two_ l' l1 hi hj rfl rfl (by simp [h3, h4, h5]) (by simpa using hdi) (by simpa using hdj) run_i run_j
  · exact two_ l1 l' hj hi rfl rfl (by simp [h3, h4, h5]) (by simpa using hdj) (by simpa using hdi) run_j run_i
/-- .. a call that computes v. -/
theorem DRA.callq {g : Nat} {xs : List Operand} {vs : List Value} {ats : Array TypeId} [hcl : CI P g] {tyi : TypeId} {posi : String} {afti : Array Edge} {ag : Bool} {s : Nat} {zv : Value} (i j : Nat) (l1 l1' : Array Bool)
    (hi : ops[i]? = some ⟨some d, .alloc t, tyi, posi, afti, none⟩) (hj : ops[j]? = some ⟨some dj, .call { callee := .value (.func g), args := xs.toArray, argTypes := ats }, ty, pos, aft, none⟩)
    (hc : twoB ops l l' l1 i j = true) (hc' : readyB .any ops l' l1' j = true) (hdi : (ds.contains i) = false) (hdj : (ds.contains j) = false) (hx : opvs e xs = some vs) (hd : Nat.blt d n = true) (hd' : Nat.blt dj n = true) (hn : e.get d = none) (hne : Nat.beq dj d = false)
    (ht : TI P t ag s zv) (hz : zv.cells = cs.toArray) (hS : S w) (hS1 : ∀ w w', S w → Ext No w w' → S w') (hsz : ∀ w, S w → w0.heap.size ≤ w.heap.size) (hU : ∀ k, U k → k < w.heap.size)
    (h : ∀ w1, Ext No w w1 → S w1 → Calls P g vs.toArray w1 fun e w' => e = .returned v ∧ Ext No w1 w')
    (hk : ∀ w', Ext No w w' → S w' → (∀ k, U k → k < w'.heap.size) → DRA P f n R S ds ops w0 d cs t U fuel l1 l1' k ((dj, v) :: e) w') : DRA P f n R S ds ops w0 d cs t U (fuel + 1) l l' k e w :=
  DRA.call i j l1 l1' (fun u N w' => u = v ∧ N = No ∧ Ext No w w') No hi hj hc hc' hdi hdj hx hd hd' hn hne ht hz hS hS1 hsz (fun _ h => h.elim) hU
    (fun w1 he hs => (h w1 he hs).mono fun en w' h' => ⟨v, No, h'.1, ⟨rfl, rfl, he.trans h'.2⟩, fun _ h => h.elim, h'.2, hS1 _ _ hs h'.2⟩)
    (fun u N w' h' hs _ hu => by
      obtain ⟨rfl, rfl, he⟩ := h'
      have h2 := hk w' he hs fun k hk => hu k (.inl hk)
      exact ⟨h2.1, fun b hb hUb hB => h2.2 b hb (fun h => hUb (.inl h)) hB⟩)
/-- The chain has ended. -/
theorem DRA.end_ {tyi : TypeId} {posi : String} {afti : Array Edge} {ag : Bool} {s : Nat} {zv : Value} (i : Nat) (hi : ops[i]? = some ⟨some d, .alloc t, tyi, posi, afti, none⟩) (hc : readyB .any ops l l' i = true) (hdi : (ds.contains i) = false) (hd : Nat.blt d n = true) (ht : TI P t ag s zv) (hz : zv.cells = cs.toArray)
    (hS : S w) (hS1 : ∀ w w', S w → Ext No w w' → S w') (hsz : ∀ w, S w → w0.heap.size ≤ w.heap.size) (hU : ∀ k, U k → k < w.heap.size)
    (hk : ∀ b w', Ext No w w' → S w' → w0.heap.size ≤ b → ¬ U b → BlkIn w' ⟨b, cs, t⟩ → DR P f n R S ds ops fuel l' k ((d, .pointer (some ⟨b, 0, none⟩)) :: e) w') : DRA P f n R S ds ops w0 d cs t U fuel l l' k e w := by
  have hal : S (w.alloc (.cells cs.toArray t)) := hS1 _ _ hS (.alloc _ _)
  refine ⟨?_, fun b hb hUb hB => hk b w (Ext.refl _ _) hS hb hUb hB⟩
  exact DR.one i l' (w.alloc (.cells cs.toArray t)) hi hc hdi (fun a _ => by simp [execOp, Instr.alloc, newVar, newRow, ht.zero, hz]) hd hal (hk _ _ (.alloc _ _) hal (hsz w hS) (fun h => by have := hU _ h; omega) (heap_alloc_new w _))
/-- A call whose guard is met, whatever it leaves. -/
theorem DR.callCG {g : Nat} {x : Operand} {xs : List Operand} {vs cap : List Value} {ats : Array TypeId} (i : Nat) (l' : Array Bool) {j dj : Nat} {r : Bool} (Φ : Value → World → Prop) (hi : ops[i]? = some ⟨some d, .call { callee := .value x, args := xs.toArray, argTypes := ats }, ty, pos, aft, some (j, r)⟩)
    (hj : (ops[j]?).bind (·.dst) = some dj) (hjn : Nat.blt dj n = true) (hgv : e.get dj = some (.bool r))
    (hc : readyB .any ops l l' i = true) (hds : (ds.contains i) = false) (hf : opv e x = some (.func (.func g) #[] cap.toArray)) (hcl : CI P g) (hx : opvs e xs = some vs) (hd : Nat.blt d n = true)
    (h : Calls P g (vs ++ cap).toArray w fun e w' => ∃ v, e = .returned v ∧ Φ v w') (hS : ∀ v w', Φ v w' → S w') (hk : ∀ v w', Φ v w' → S w' → DR P f n R S ds ops fuel l' k ((d, v) :: e) w') : DR P f n R S ds ops (fuel + 1) l k e w := by
  unfold DR
  intro a ha
  refine one_ l' hi rfl hc (by simpa using hds) fun K hK => want_if (by simp [Region.wanted, guard_val ha hj hjn hgv]) ?_
  have hr := run_call (P := P) (ty := ty) (pos := pos) (aft := aft) (dst := some d) (gd := some (j, r)) (ats := ats) ha hf hx hcl.run w
  unfold Oper.wp
  rw [hr, Oper.upon_enter]
  have h' : Calls P g (vs.toArray ++ cap.toArray) w fun e w' => ∃ v, e = .returned v ∧ Φ v w' := by simpa using h
  refine h'.mono fun en w' he => ?_
  obtain ⟨v, rfl, hv⟩ := he
  exact hK.out _ _ (hS v w' hv) fun hS' => by have := hk v w' hv hS'; unfold DR at this; exact this _ (ha.put (by simpa using hd) v)
end
end Go.Proofs.Ytmkpbbdocndfbaa
